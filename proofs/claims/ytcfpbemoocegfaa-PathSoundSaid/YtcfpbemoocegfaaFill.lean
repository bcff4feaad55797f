/- Walks over routes: what goes over each channel. -/
import Derived.Test.YtcfpbemoocegfaaPathP
import Derived.Test.YtcfpbemoocegfaaBack8
import Derived.Test.YtcfpbemoocegfaaReach07
import Derived.Test.YtcfpbemoocegfaaGf
namespace Go.Proofs.Ytcfpbemoocegfaa
set_option linter.unusedVariables false
set_option linter.unusedSimpArgs false
set_option linter.unnecessarySimpa false
open Go Go.RowKit

theorem words_iC (xs : List Int) : words xs = xs.flatMap iC_u64 := wordsR xs
theorem info_int8 : (Try.prog.info? 3).map (fun i => (i.zero, i.size, i.bytes)) = some (some (.int .i64 0), 1, 8) := by kernel_rfl
set_option maxRecDepth 100000 in
set_option maxHeartbeats 2000000 in
theorem cloneI_any (w : World) (A : Option Addr) (c : Nat) (l : List Int) (h : Recs 1 iC_i64 w A c l) (hl : l.length ≤ 1000) : Calls Try.prog 94 #[.slice A l.length c] w fun e w' => ∃ A' c', e = .returned (.slice A' l.length c') ∧ Sat w w' [rest w (· < w.heap.size), row 3 1 (.slice A' l.length c') l.length (l.flatMap iC_i64)] := by
  have q : ∀ (w : World) (a : Option Addr) (n c n' c' : Nat), (binOp .eql 42 (.slice a n c) (.slice none n' c')).run Try.prog w = .ok (.bool a.isNone) w := fun w a n c n' c' => Lib.run_eql_slice_nil w _ _ a n c n' c' Try.underlying42
  cases A with
  | none =>
    obtain ⟨hl0, rfl⟩ := h.none_ rfl
    obtain rfl := List.eq_nil_of_length_eq_zero hl0
    have H0 := Lib.hid ((Sat.pushRest w).nilRow 3 1)
    clear h hl0
    go_enter Try.func94, Try.ntmps94
    go_wp2
    go_ret
    exact ⟨none, 0, rfl, H0.out⟩
  | some ad =>
    have hm := (Sat.pushRest w).made #[] 3 1 0 0 rfl (Nat.le_refl _) (Nat.zero_le _)
    try simp only [List.cons_append, List.nil_append, List.set_cons_succ, List.set_cons_zero, Nat.zero_add, Nat.reduceAdd, World.size_alloc] at hm
    have HM := Lib.hid hm
    have HS := Lib.hid h.src
    clear h hm
    go_enter Try.func94, Try.ntmps94
    go_wp2_with (first
      | (at_builtin; refine wpList_append_sat rfl _ _ 42 rfl HM.out 1 3 (.int .i64 0) 1 8 Try.underlying42 info_int8 rfl (by decide) (.slice (some ⟨_, 0, none⟩) 0 0) 0 [] ?a0 rfl (some ad) l.length c (l.flatMap iC_i64) ?a1 (fun h => by cases h) ?a2 (src_rest HM.out (i := 0) rfl HS.out (src_lt HS.out)) ?a3 ?a4 ?a5 ?a6)
      | fail)
    try (case a0 => go_simp)
    try (case a1 => go_simp)
    try (case a2 => exact recs_len iC_len_i64 l)
    case a3 => (intro u hu; simp only [List.mem_flatMap] at hu; obtain ⟨p, _, hp⟩ := hu; simp [iC_i64] at hp; rcases hp with rfl <;> rfl)
    case a4 => unfold maxLen; omega
    case a5 => omega
    case a6 =>
      intro A2 c2 w3 h3 hA2 hg2
      try simp only [List.cons_append, List.nil_append, List.set_cons_succ, List.set_cons_zero, Nat.zero_add, Nat.reduceAdd, World.size_alloc] at h3
      have H3 := Lib.hid h3
      clear h3 hA2 hg2
      go_wp2
      go_ret
      exact ⟨A2, c2, rfl, H3.out⟩
theorem back_gx (w : World) (a : Int) (ha : U64 a) (A : Option Addr) (c : Nat) (l : List (Int × Int)) (h : Recs 2 feeC w A c l) (hu : P64 l) (hl : l.length ≤ 1000) : Calls Try.prog 93 #[.int .u64 a, .slice A l.length c] w fun e w' => ∃ A' c', e = .returned (.tuple #[.slice A' (backP a l).1.length c', .int .i64 (backP a l).2]) ∧ Sat w w' [rest w (· < w.heap.size), row 26 1 (.slice A' (backP a l).1.length c') (backP a l).1.length ((backP a l).1.flatMap iC_u64)] := (back_any w a ha A c l h hu hl).mono fun e w' => by
  rintro ⟨A', c', h1, h2⟩
  rw [words_iC] at h2
  exact ⟨A', c', h1, h2⟩
set_option maxRecDepth 100000 in
set_option maxHeartbeats 4000000 in
theorem fill_any (w : World) (As : Option Addr) (cs : Nat) (Ae : Option Addr) (ce : Nat) (x : Wb) (h : WebAt w As cs Ae ce x) (ok : x.Ok) (An : Option Addr) (cn : Nat) (N : List Int) (hN : Recs 1 iC_i64 w An cn N) (Am : Option Addr) (cm : Nat) (E : List Int) (hE : Recs 1 iC_i64 w Am cm E) (am : Int) (hua : U64 am) (hw : WayOk x N E) (hl : E.length ≤ 7) : Calls Try.prog 56 #[.agg #[.slice As x.spots.length cs, .slice Ae x.edges.length ce], .slice An N.length cn, .slice Am E.length cm, .int .u64 am] w fun e w' => (fillP x N E am = none ∧ e = .returned (.tuple #[.agg #[.slice none 0 0, .slice none 0 0, .slice none 0 0], .bool false]) ∧ Below w.heap.size w w') ∨ ∃ r, fillP x N E am = some r ∧ ∃ A1 c1 A2 c2 A3 c3, e = .returned (.tuple #[.agg #[.slice A1 r.nodes.length c1, .slice A2 r.edges.length c2, .slice A3 r.amts.length c3], .bool true]) ∧ Sat w w' [rest w (· < w.heap.size), row 3 1 (.slice A1 r.nodes.length c1) r.nodes.length (r.nodes.flatMap iC_i64), row 3 1 (.slice A2 r.edges.length c2) r.edges.length (r.edges.flatMap iC_i64), row 26 1 (.slice A3 r.amts.length c3) r.amts.length (r.amts.flatMap iC_u64)] := by
 refine enter 89 Try.func56 rfl rfl rfl fun a F => ?_
 have S := Sat.pushRest w
 have hwl := hw.len
 refine s_reg ?_
 refine l_do F rfl rfl (op_box S _ _ (.agg #[.slice As x.spots.length cs, .slice Ae x.edges.length ce]) F rfl (by kernel_rfl) fun b1 z S a F => ?_)
 refine l_do F rfl rfl (op_alloc S _ (.agg #[.slice none 0 0, .slice none 0 0, .slice none 0 0]) rfl (by kernel_rfl) fun b2 z S a F => ?_)
 refine l_pure 1 (fun L => (9, .bool false) :: L) F (by kernel_rfl) fun a F => ?_
 refine l_then ?_
 refine s_reg ?_
 refine l_pure 1 (fun L => (10, .slice none 0 0) :: L) F (by kernel_rfl) fun a F => ?_
 refine l_then ?_
 refine wp_seq ?_
 refine s_reg ?_
 refine l_pure 3 (fun L => (21, .int .i64 0) :: (20, .int .i64 (E.length : Nat)) :: (19, .slice Am E.length cm) :: L) F (by kernel_rfl) fun a F => ?_
 refine l_then ?_
 refine wp_block ?_
 have S := S.nilRow 59 2
 refine wp_loop_m (fun m a z => ∃ (i : Nat) (X : List (Int × Int)) (A : Option Addr) (c : Nat), m = E.length - i ∧ (i ≤ E.length) ∧ (X = feesT x N E i) ∧ Fr a 89 [(1, .slice An N.length cn), (2, .slice Am E.length cm), (3, .int .u64 am), (4, .pointer (some ⟨b1, 0, none⟩)), (8, .pointer (some ⟨b2, 0, none⟩)), (10, .slice A X.length c), (19, .slice Am E.length cm), (20, .int .i64 (E.length : Nat)), (21, .int .i64 (i : Nat))] ∧ Sat w z [rest w (· < w.heap.size), box b1 32 [.slice As x.spots.length cs, .slice Ae x.edges.length ce], box b2 47 [.slice none 0 0, .slice none 0 0, .slice none 0 0], row 59 2 (.slice A X.length c) X.length (X.flatMap feeC)]) _ ⟨0, ([] : List (Int × Int)), none, 0, rfl, Nat.zero_le _, rfl, F.sub ⟨by kernel_rfl, by kernel_rfl, by kernel_rfl, by kernel_rfl, by kernel_rfl, by kernel_rfl, by kernel_rfl, by kernel_rfl, by kernel_rfl, trivial⟩, S⟩ ?_
 rintro m a z ⟨i, X, A, c, hm, hf3, hf4, F, S⟩
 have hXi := hf4
 have hXn : X.length ≤ 7 := by rw [hXi, feesT_len hwl hf3]; omega
 refine s_reg ?_
 by_cases ht5 : ((i : Nat) : Int) < ((E.length : Nat) : Int)
 ·
  skip
  obtain ⟨e0, he⟩ : ∃ e0, E[i]? = some e0 := ⟨_, List.getElem?_eq_getElem (by omega)⟩
  obtain ⟨n, hn⟩ : ∃ n, N[i]? = some n := ⟨_, List.getElem?_eq_getElem (by omega)⟩
  obtain ⟨j, rfl, ed, hed, hsd, hnx⟩ := hw.at_ i n e0 hn he
  refine l_do F rfl rfl (op_pure F (v0 := .bool (decide (((i : Nat) : Int) < ((E.length : Nat) : Int)))) (v := .bool true) (by kernel_rfl) (lssT ht5) fun a F => ?_)
  refine l_then ?_
  refine wp_seq ?_
  refine c_t F rfl ?_
  refine wp_skip ?_
  refine then_n ?_
  refine wp_seq ?_
  refine wp_block ?_
  refine s_reg ?_
  refine l_pure 1 (fun L => (23, .int .i64 (i : Nat)) :: L) F (by kernel_rfl) fun a F => ?_
  refine l_do F rfl rfl (op_index _ 3 _ _ Am E.length cm i 1 .i64 F rfl (by kernel_rfl) (by kernel_rfl) (by kernel_rfl) (by kernel_rfl) (get_lt he) (recs_some hE (m := i) (get_lt he)) (fun a F => ?_))
  refine l_do F rfl rfl (op_load _ _ Am (i * 1) (.int .i64 (j : Nat)) F rfl (by kernel_rfl) (by kernel_rfl) (cOld S 0 iC_len_i64 hE rfl 0 he rfl) (fun a F => ?_))
  refine l_pure 2 (fun L => (12, .int .i64 (j : Nat)) :: (11, .int .i64 (i : Nat)) :: L) F (by kernel_rfl) fun a F => ?_
  refine l_then ?_
  refine s_reg ?_
  refine l_pure 1 (fun L => (26, .pointer (some ⟨b1, 1, none⟩)) :: L) F (by kernel_rfl) fun a F => ?_
  refine l_do F rfl rfl (op_load _ _ (some ⟨b1, 0, none⟩) 1 (.slice Ae x.edges.length ce) F rfl (by kernel_rfl) (by kernel_rfl) (cBox S 1 rfl (j := 1) rfl) (fun a F => ?_))
  refine l_pure 1 (fun L => (28, .int .i64 (j : Nat)) :: L) F (by kernel_rfl) fun a F => ?_
  refine l_do F rfl rfl (op_index _ 62 _ _ Ae x.edges.length ce j 8 .i64 F rfl (by kernel_rfl) (by kernel_rfl) (by kernel_rfl) (by kernel_rfl) (get_lt hed) (recs_some h.e (m := j) (get_lt hed)) (fun a F => ?_))
  refine l_do F rfl rfl (op_loadK _ _ Ae (j * 8) [.int .i64 ed.a, .int .i64 ed.b, .int .u64 ed.c0, .int .u64 ed.c1, .int .u64 ed.b0, .int .u64 ed.r0, .int .u64 ed.b1, .int .u64 ed.r1] F rfl (by kernel_rfl) (by kernel_rfl) (by kernel_rfl) (by simp) (cOldK0 S 0 edC_len h.e rfl hed (by kernel_rfl)) (fun a F => ?_))
  refine l_do F rfl rfl (op_alloc S _ (.agg #[.int .i64 0, .int .i64 0, .int .u64 0, .int .u64 0, .int .u64 0, .int .u64 0, .int .u64 0, .int .u64 0]) rfl (by kernel_rfl) fun b6 z S a F => ?_)
  refine l_do F rfl rfl (op_storeB S 4 _ _ _ b6 0 (.agg #[.int .i64 ed.a, .int .i64 ed.b, .int .u64 ed.c0, .int .u64 ed.c1, .int .u64 ed.b0, .int .u64 ed.r0, .int .u64 ed.b1, .int .u64 ed.r1]) F rfl rfl (by kernel_rfl) (by kernel_rfl) (by kernel_rfl) (by kernel_rfl) (by kernel_rfl) fun z S a F => ?_)
  refine l_then ?_
  refine s_reg ?_
  refine l_pure 1 (fun L => (31, .int .i64 (i : Nat)) :: L) F (by kernel_rfl) fun a F => ?_
  by_cases ht7 : (0 : Int) < ((i : Nat) : Int)
  ·
   skip
   refine l_do F rfl rfl (op_pure F (v0 := .bool (decide (((i : Nat) : Int) > (0 : Int)))) (v := .bool true) (by kernel_rfl) (gtrT ht7) fun a F => ?_)
   refine l_then ?_
   refine c_t F rfl ?_
   rcases side_cases ed n with ⟨hs, ha⟩ | ⟨hs, hb1, ha⟩ | ⟨hs, ha, hb1⟩
   ·
    skip
    have S := S.pushEmp
    refine region_gx (fun D => fun ((b8, A9, c10) : Nat × Option Addr × Nat) => [rest w (· < w.heap.size), box b1 32 [.slice As x.spots.length cs, .slice Ae x.edges.length ce], box b2 47 [.slice none 0 0, .slice none 0 0, .slice none 0 0], bif D 11 then row 59 2 (.slice A9 ((X ++ ([((ed.b0, ed.r0) : Int × Int)] : List (Int × Int))).length) c10) ((X ++ ([((ed.b0, ed.r0) : Int × Int)] : List (Int × Int))).length) ((X ++ ([((ed.b0, ed.r0) : Int × Int)] : List (Int × Int))).flatMap feeC) else row 59 2 (.slice A X.length c) X.length (X.flatMap feeC), box b6 62 [.int .i64 ed.a, .int .i64 ed.b, .int .u64 ed.c0, .int .u64 ed.c1, .int .u64 ed.b0, .int .u64 ed.r0, .int .u64 ed.b1, .int .u64 ed.r1], bif D 10 then row 59 2 (.slice (some ⟨b8, 0, none⟩) 1 1) 1 (([((ed.b0, ed.r0) : Int × Int)] : List (Int × Int)).flatMap feeC) else emp]) (fun ((b8, A9, c10) : Nat × Option Addr × Nat) => [.slice A X.length c, .agg #[.int .i64 ed.a, .int .i64 ed.b, .int .u64 ed.c0, .int .u64 ed.c1, .int .u64 ed.b0, .int .u64 ed.r0, .int .u64 ed.b1, .int .u64 ed.r1], .slice An N.length cn, .int .i64 (i : Nat), ptrA An (i * 1), .int .i64 n, .int .i64 0, .pointer (some ⟨b6, 4, none⟩), .pointer (some ⟨b6, 4, none⟩), .agg #[.int .u64 ed.b0, .int .u64 ed.r0], .slice (some ⟨b8, 0, none⟩) 1 1, .slice A9 ((X ++ ([((ed.b0, ed.r0) : Int × Int)] : List (Int × Int))).length) c10, .slice A9 ((X ++ ([((ed.b0, ed.r0) : Int × Int)] : List (Int × Int))).length) c10]) [(1, [], [6, 9, 10, 11]), (4, [], [5, 6, 9, 10, 11]), (5, [4], [6, 9, 10, 11]), (6, [1, 4, 5], [9, 10, 11]), (9, [1, 4, 5, 6], [10, 11]), (10, [1, 4, 5, 6, 9], [11]), (11, [1, 4, 5, 6, 9, 10], [])] (0, none, 0) rfl (by kernel_rfl) (by kernel_rfl) F S.drew ?_ ?_ ?_ ?_ ?_
    · rintro ⟨b8, A9, c10⟩; rfl
    · rintro ⟨b8, A9, c10⟩; kernel_rfl
    ·
     intro D D' x h
     obtain ⟨b8, A9, c10⟩ := x
     simp only [h 10 (by decide), h 11 (by decide)]
    ·
     refine ⟨?_, ?_⟩
     ·
      refine ⟨_, rfl, rfl, by kernel_rfl, ?_⟩
      rintro D ⟨b8, A9, c10⟩ a z S F
      refine ⟨by kernel_rfl, ?_⟩
      exact op_loadK _ _ (some ⟨b6, 0, none⟩) 0 [.int .i64 ed.a, .int .i64 ed.b, .int .u64 ed.c0, .int .u64 ed.c1, .int .u64 ed.b0, .int .u64 ed.r0, .int .u64 ed.b1, .int .u64 ed.r1] F rfl (by kernel_rfl) (by kernel_rfl) (by kernel_rfl) (by simp) (cBoxK S 4 rfl 0 (by kernel_rfl)) (⟨(b8, A9, c10), rfl, (SameB.refl _ _ rfl), S⟩)
     refine ⟨?_, ?_⟩
     ·
      refine ⟨_, rfl, rfl, by kernel_rfl, ?_⟩
      rintro D ⟨b8, A9, c10⟩ a z S F
      refine ⟨by kernel_rfl, ?_⟩
      exact op_index _ 3 _ _ An N.length cn i 1 .i64 F rfl (by kernel_rfl) (by kernel_rfl) (by kernel_rfl) (by kernel_rfl) (get_lt hn) (recs_some hN (m := i) (get_lt hn)) (⟨(b8, A9, c10), rfl, (SameB.refl _ _ rfl), S⟩)
     refine ⟨?_, ?_⟩
     ·
      refine ⟨_, rfl, rfl, by kernel_rfl, ?_⟩
      rintro D ⟨b8, A9, c10⟩ a z S F
      refine ⟨by kernel_rfl, ?_⟩
      exact op_load _ _ An (i * 1) (.int .i64 n) F rfl (by kernel_rfl) (by kernel_rfl) (cOld S 0 iC_len_i64 hN rfl 0 hn rfl) (⟨(b8, A9, c10), rfl, (SameB.refl _ _ rfl), S⟩)
     refine ⟨?_, ?_⟩
     ·
      refine ⟨_, rfl, rfl, by kernel_rfl, ?_⟩
      rintro D ⟨b8, A9, c10⟩ a z S F
      refine ⟨by kernel_rfl, ?_⟩
      refine op_fn F (by kernel_rfl) (side_at hs _) ?_
      rintro e z ⟨rfl, hb⟩
      have S := S.grow hb
      exact ⟨_, rfl, (b8, A9, c10), rfl, (SameB.refl _ _ rfl), S⟩
     refine ⟨?_, ?_⟩
     ·
      refine ⟨_, rfl, rfl, by kernel_rfl, ?_⟩
      rintro D ⟨b8, A9, c10⟩ a z S F
      refine ⟨by kernel_rfl, ?_⟩
      exact op_loadK _ _ (some ⟨b6, 0, none⟩) 4 [.int .u64 ed.b0, .int .u64 ed.r0] F rfl (by kernel_rfl) (by kernel_rfl) (by kernel_rfl) (by simp) (cBoxK S 4 rfl 4 (by kernel_rfl)) (⟨(b8, A9, c10), rfl, (SameB.refl _ _ rfl), S⟩)
     refine ⟨?_, ?_⟩
     ·
      refine ⟨_, rfl, rfl, by kernel_rfl, ?_⟩
      rintro D ⟨b8, A9, c10⟩ a z S F
      refine ⟨by kernel_rfl, ?_⟩
      exact op_buildSliceF S 5 rfl _ 1 _ 59 2 feeC ([((ed.b0, ed.r0) : Int × Int)] : List (Int × Int)) F rfl (by kernel_rfl) (by kernel_rfl) (by kernel_rfl) (by unfold maxLen; omega) fun y11 z S => ⟨(y11, A9, c10), rfl, ⟨rfl, rfl, rfl, rfl, rfl, rfl, rfl, rfl, rfl, rfl, trivial, trivial, trivial, trivial⟩, S⟩
     refine ⟨?_, ?_⟩
     ·
      refine ⟨_, rfl, rfl, by kernel_rfl, ?_⟩
      rintro D ⟨b8, A9, c10⟩ a z S F
      refine ⟨by kernel_rfl, ?_⟩
      exact op_append S 3 _ _ _ 59 (.agg #[.int .u64 0, .int .u64 0]) 2 16 X ([((ed.b0, ed.r0) : Int × Int)] : List (Int × Int)) feeC (some ⟨b8, 0, none⟩) 1 F feeC_len (fun _ => rfl) rfl rfl (by kernel_rfl) (by kernel_rfl) rfl rfl rfl (by kernel_rfl) (by kernel_rfl) (row_none (S.rowOf (i := 5) rfl)) (src_row (S.rowOf (i := 5) rfl)) (by first | omega | (simp <;> omega)) fun y12 y13 z S => ⟨(b8, y12, y13), rfl, ⟨rfl, rfl, rfl, rfl, rfl, rfl, rfl, rfl, rfl, rfl, rfl, trivial, trivial, trivial⟩, S⟩
     trivial
    ·
     rintro ⟨b8, A9, c10⟩ a z F S
     have F := F.sub (l := [(1, .slice An N.length cn), (2, .slice Am E.length cm), (3, .int .u64 am), (4, .pointer (some ⟨b1, 0, none⟩)), (8, .pointer (some ⟨b2, 0, none⟩)), (10, .slice A9 ((X ++ ([((ed.b0, ed.r0) : Int × Int)] : List (Int × Int))).length) c10), (19, .slice Am E.length cm), (20, .int .i64 (E.length : Nat)), (21, .int .i64 (i : Nat))]) ⟨by kernel_rfl, by kernel_rfl, by kernel_rfl, by kernel_rfl, by kernel_rfl, by kernel_rfl, by kernel_rfl, by kernel_rfl, by kernel_rfl, trivial⟩
     have S : Sat w z [rest w (· < w.heap.size), box b1 32 [.slice As x.spots.length cs, .slice Ae x.edges.length ce], box b2 47 [.slice none 0 0, .slice none 0 0, .slice none 0 0], row 59 2 (.slice A9 ((X ++ ([((ed.b0, ed.r0) : Int × Int)] : List (Int × Int))).length) c10) ((X ++ ([((ed.b0, ed.r0) : Int × Int)] : List (Int × Int))).length) ((X ++ ([((ed.b0, ed.r0) : Int × Int)] : List (Int × Int))).flatMap feeC), box b6 62 [.int .i64 ed.a, .int .i64 ed.b, .int .u64 ed.c0, .int .u64 ed.c1, .int .u64 ed.b0, .int .u64 ed.r0, .int .u64 ed.b1, .int .u64 ed.r1], row 59 2 (.slice (some ⟨b8, 0, none⟩) 1 1) 1 (([((ed.b0, ed.r0) : Int × Int)] : List (Int × Int)).flatMap feeC)] := S
     refine inb_n ?_
     refine then_n ?_
     refine wp_region_list ?_
     refine l_do F rfl rfl (op_pure F (v0 := .int .i64 (IntKind.wrap .i64 ((i : Nat) + 1))) (v := .int .i64 (i + 1 : Nat)) (by kernel_rfl) (wrn_i64 (by omega) (by omega) (by omega)) fun a F => ?_)
     refine l_pure 1 (fun L => (21, .int .i64 (i + 1 : Nat)) :: L) F (by kernel_rfl) fun a F => ?_
     refine l_then ?_
     exact ⟨_, (by omega), i + 1, (X ++ ([((ed.b0, ed.r0) : Int × Int)] : List (Int × Int))), A9, c10, rfl, (by omega), (by rw [hXi]; exact (feesT_add (by omega) hn he (fee_at0 hed hs)).symm), F.sub ⟨by kernel_rfl, by kernel_rfl, by kernel_rfl, by kernel_rfl, by kernel_rfl, by kernel_rfl, by kernel_rfl, by kernel_rfl, by kernel_rfl, trivial⟩, (S.pick [0, 1, 2, 3] (by decide))⟩
   ·
    skip
    have S := S.pushEmp
    refine region_gx (fun D => fun ((b14, A15, c16) : Nat × Option Addr × Nat) => [rest w (· < w.heap.size), box b1 32 [.slice As x.spots.length cs, .slice Ae x.edges.length ce], box b2 47 [.slice none 0 0, .slice none 0 0, .slice none 0 0], bif D 11 then row 59 2 (.slice A15 ((X ++ ([((ed.b1, ed.r1) : Int × Int)] : List (Int × Int))).length) c16) ((X ++ ([((ed.b1, ed.r1) : Int × Int)] : List (Int × Int))).length) ((X ++ ([((ed.b1, ed.r1) : Int × Int)] : List (Int × Int))).flatMap feeC) else row 59 2 (.slice A X.length c) X.length (X.flatMap feeC), box b6 62 [.int .i64 ed.a, .int .i64 ed.b, .int .u64 ed.c0, .int .u64 ed.c1, .int .u64 ed.b0, .int .u64 ed.r0, .int .u64 ed.b1, .int .u64 ed.r1], bif D 10 then row 59 2 (.slice (some ⟨b14, 0, none⟩) 1 1) 1 (([((ed.b1, ed.r1) : Int × Int)] : List (Int × Int)).flatMap feeC) else emp]) (fun ((b14, A15, c16) : Nat × Option Addr × Nat) => [.slice A X.length c, .agg #[.int .i64 ed.a, .int .i64 ed.b, .int .u64 ed.c0, .int .u64 ed.c1, .int .u64 ed.b0, .int .u64 ed.r0, .int .u64 ed.b1, .int .u64 ed.r1], .slice An N.length cn, .int .i64 (i : Nat), ptrA An (i * 1), .int .i64 n, .int .i64 1, .pointer (some ⟨b6, 4, none⟩), .pointer (some ⟨b6, 6, none⟩), .agg #[.int .u64 ed.b1, .int .u64 ed.r1], .slice (some ⟨b14, 0, none⟩) 1 1, .slice A15 ((X ++ ([((ed.b1, ed.r1) : Int × Int)] : List (Int × Int))).length) c16, .slice A15 ((X ++ ([((ed.b1, ed.r1) : Int × Int)] : List (Int × Int))).length) c16]) [(1, [], [6, 9, 10, 11]), (4, [], [5, 6, 9, 10, 11]), (5, [4], [6, 9, 10, 11]), (6, [1, 4, 5], [9, 10, 11]), (9, [1, 4, 5, 6], [10, 11]), (10, [1, 4, 5, 6, 9], [11]), (11, [1, 4, 5, 6, 9, 10], [])] (0, none, 0) rfl (by kernel_rfl) (by kernel_rfl) F S.drew ?_ ?_ ?_ ?_ ?_
    · rintro ⟨b14, A15, c16⟩; rfl
    · rintro ⟨b14, A15, c16⟩; kernel_rfl
    ·
     intro D D' x h
     obtain ⟨b14, A15, c16⟩ := x
     simp only [h 10 (by decide), h 11 (by decide)]
    ·
     refine ⟨?_, ?_⟩
     ·
      refine ⟨_, rfl, rfl, by kernel_rfl, ?_⟩
      rintro D ⟨b14, A15, c16⟩ a z S F
      refine ⟨by kernel_rfl, ?_⟩
      exact op_loadK _ _ (some ⟨b6, 0, none⟩) 0 [.int .i64 ed.a, .int .i64 ed.b, .int .u64 ed.c0, .int .u64 ed.c1, .int .u64 ed.b0, .int .u64 ed.r0, .int .u64 ed.b1, .int .u64 ed.r1] F rfl (by kernel_rfl) (by kernel_rfl) (by kernel_rfl) (by simp) (cBoxK S 4 rfl 0 (by kernel_rfl)) (⟨(b14, A15, c16), rfl, (SameB.refl _ _ rfl), S⟩)
     refine ⟨?_, ?_⟩
     ·
      refine ⟨_, rfl, rfl, by kernel_rfl, ?_⟩
      rintro D ⟨b14, A15, c16⟩ a z S F
      refine ⟨by kernel_rfl, ?_⟩
      exact op_index _ 3 _ _ An N.length cn i 1 .i64 F rfl (by kernel_rfl) (by kernel_rfl) (by kernel_rfl) (by kernel_rfl) (get_lt hn) (recs_some hN (m := i) (get_lt hn)) (⟨(b14, A15, c16), rfl, (SameB.refl _ _ rfl), S⟩)
     refine ⟨?_, ?_⟩
     ·
      refine ⟨_, rfl, rfl, by kernel_rfl, ?_⟩
      rintro D ⟨b14, A15, c16⟩ a z S F
      refine ⟨by kernel_rfl, ?_⟩
      exact op_load _ _ An (i * 1) (.int .i64 n) F rfl (by kernel_rfl) (by kernel_rfl) (cOld S 0 iC_len_i64 hN rfl 0 hn rfl) (⟨(b14, A15, c16), rfl, (SameB.refl _ _ rfl), S⟩)
     refine ⟨?_, ?_⟩
     ·
      refine ⟨_, rfl, rfl, by kernel_rfl, ?_⟩
      rintro D ⟨b14, A15, c16⟩ a z S F
      refine ⟨by kernel_rfl, ?_⟩
      refine op_fn F (by kernel_rfl) (side_at hs _) ?_
      rintro e z ⟨rfl, hb⟩
      have S := S.grow hb
      exact ⟨_, rfl, (b14, A15, c16), rfl, (SameB.refl _ _ rfl), S⟩
     refine ⟨?_, ?_⟩
     ·
      refine ⟨_, rfl, rfl, by kernel_rfl, ?_⟩
      rintro D ⟨b14, A15, c16⟩ a z S F
      refine ⟨by kernel_rfl, ?_⟩
      exact op_loadK _ _ (some ⟨b6, 0, none⟩) 6 [.int .u64 ed.b1, .int .u64 ed.r1] F rfl (by kernel_rfl) (by kernel_rfl) (by kernel_rfl) (by simp) (cBoxK S 4 rfl 6 (by kernel_rfl)) (⟨(b14, A15, c16), rfl, (SameB.refl _ _ rfl), S⟩)
     refine ⟨?_, ?_⟩
     ·
      refine ⟨_, rfl, rfl, by kernel_rfl, ?_⟩
      rintro D ⟨b14, A15, c16⟩ a z S F
      refine ⟨by kernel_rfl, ?_⟩
      exact op_buildSliceF S 5 rfl _ 1 _ 59 2 feeC ([((ed.b1, ed.r1) : Int × Int)] : List (Int × Int)) F rfl (by kernel_rfl) (by kernel_rfl) (by kernel_rfl) (by unfold maxLen; omega) fun y17 z S => ⟨(y17, A15, c16), rfl, ⟨rfl, rfl, rfl, rfl, rfl, rfl, rfl, rfl, rfl, rfl, trivial, trivial, trivial, trivial⟩, S⟩
     refine ⟨?_, ?_⟩
     ·
      refine ⟨_, rfl, rfl, by kernel_rfl, ?_⟩
      rintro D ⟨b14, A15, c16⟩ a z S F
      refine ⟨by kernel_rfl, ?_⟩
      exact op_append S 3 _ _ _ 59 (.agg #[.int .u64 0, .int .u64 0]) 2 16 X ([((ed.b1, ed.r1) : Int × Int)] : List (Int × Int)) feeC (some ⟨b14, 0, none⟩) 1 F feeC_len (fun _ => rfl) rfl rfl (by kernel_rfl) (by kernel_rfl) rfl rfl rfl (by kernel_rfl) (by kernel_rfl) (row_none (S.rowOf (i := 5) rfl)) (src_row (S.rowOf (i := 5) rfl)) (by first | omega | (simp <;> omega)) fun y18 y19 z S => ⟨(b14, y18, y19), rfl, ⟨rfl, rfl, rfl, rfl, rfl, rfl, rfl, rfl, rfl, rfl, rfl, trivial, trivial, trivial⟩, S⟩
     trivial
    ·
     rintro ⟨b14, A15, c16⟩ a z F S
     have F := F.sub (l := [(1, .slice An N.length cn), (2, .slice Am E.length cm), (3, .int .u64 am), (4, .pointer (some ⟨b1, 0, none⟩)), (8, .pointer (some ⟨b2, 0, none⟩)), (10, .slice A15 ((X ++ ([((ed.b1, ed.r1) : Int × Int)] : List (Int × Int))).length) c16), (19, .slice Am E.length cm), (20, .int .i64 (E.length : Nat)), (21, .int .i64 (i : Nat))]) ⟨by kernel_rfl, by kernel_rfl, by kernel_rfl, by kernel_rfl, by kernel_rfl, by kernel_rfl, by kernel_rfl, by kernel_rfl, by kernel_rfl, trivial⟩
     have S : Sat w z [rest w (· < w.heap.size), box b1 32 [.slice As x.spots.length cs, .slice Ae x.edges.length ce], box b2 47 [.slice none 0 0, .slice none 0 0, .slice none 0 0], row 59 2 (.slice A15 ((X ++ ([((ed.b1, ed.r1) : Int × Int)] : List (Int × Int))).length) c16) ((X ++ ([((ed.b1, ed.r1) : Int × Int)] : List (Int × Int))).length) ((X ++ ([((ed.b1, ed.r1) : Int × Int)] : List (Int × Int))).flatMap feeC), box b6 62 [.int .i64 ed.a, .int .i64 ed.b, .int .u64 ed.c0, .int .u64 ed.c1, .int .u64 ed.b0, .int .u64 ed.r0, .int .u64 ed.b1, .int .u64 ed.r1], row 59 2 (.slice (some ⟨b14, 0, none⟩) 1 1) 1 (([((ed.b1, ed.r1) : Int × Int)] : List (Int × Int)).flatMap feeC)] := S
     refine inb_n ?_
     refine then_n ?_
     refine wp_region_list ?_
     refine l_do F rfl rfl (op_pure F (v0 := .int .i64 (IntKind.wrap .i64 ((i : Nat) + 1))) (v := .int .i64 (i + 1 : Nat)) (by kernel_rfl) (wrn_i64 (by omega) (by omega) (by omega)) fun a F => ?_)
     refine l_pure 1 (fun L => (21, .int .i64 (i + 1 : Nat)) :: L) F (by kernel_rfl) fun a F => ?_
     refine l_then ?_
     exact ⟨_, (by omega), i + 1, (X ++ ([((ed.b1, ed.r1) : Int × Int)] : List (Int × Int))), A15, c16, rfl, (by omega), (by rw [hXi]; exact (feesT_add (by omega) hn he (fee_at1 hed hs)).symm), F.sub ⟨by kernel_rfl, by kernel_rfl, by kernel_rfl, by kernel_rfl, by kernel_rfl, by kernel_rfl, by kernel_rfl, by kernel_rfl, by kernel_rfl, trivial⟩, (S.pick [0, 1, 2, 3] (by decide))⟩
   · exact absurd hsd (by rw [hs]; decide)
  ·
   skip
   refine l_do F rfl rfl (op_pure F (v0 := .bool (decide (((i : Nat) : Int) > (0 : Int)))) (v := .bool false) (by kernel_rfl) (gtrF ht7) fun a F => ?_)
   refine l_then ?_
   refine c_f F rfl ?_
   refine wp_skip ?_
   refine inb_n ?_
   refine then_n ?_
   refine wp_region_list ?_
   refine l_do F rfl rfl (op_pure F (v0 := .int .i64 (IntKind.wrap .i64 ((i : Nat) + 1))) (v := .int .i64 (i + 1 : Nat)) (by kernel_rfl) (wrn_i64 (by omega) (by omega) (by omega)) fun a F => ?_)
   refine l_pure 1 (fun L => (21, .int .i64 (i + 1 : Nat)) :: L) F (by kernel_rfl) fun a F => ?_
   refine l_then ?_
   exact ⟨_, (by omega), i + 1, X, A, c, rfl, (by omega), (by rw [hXi, show i = 0 from by omega]; exact (feesT_one x N E).symm), F.sub ⟨by kernel_rfl, by kernel_rfl, by kernel_rfl, by kernel_rfl, by kernel_rfl, by kernel_rfl, by kernel_rfl, by kernel_rfl, by kernel_rfl, trivial⟩, (S.pick [0, 1, 2, 3] (by decide))⟩
 ·
  skip
  have hX : X = feesP x N E := by rw [hXi, show i = E.length from by omega, feesT_all hwl]
  have hXl : X.length = E.length - 1 := by rw [hX, feesP_len hwl]
  refine l_do F rfl rfl (op_pure F (v0 := .bool (decide (((i : Nat) : Int) < ((E.length : Nat) : Int)))) (v := .bool false) (by kernel_rfl) (lssF ht5) fun a F => ?_)
  refine l_then ?_
  refine wp_seq ?_
  refine c_f F rfl ?_
  refine wp_exit ?_
  refine then_x ?_
  refine then_x ?_
  refine inb_x ?_
  refine then_n ?_
  refine s_reg ?_
  refine l_pure 2 (fun L => (48, .slice A X.length c) :: (47, .int .u64 am) :: L) F (by kernel_rfl) fun a F => ?_
  refine l_do F rfl rfl (op_fn F (by kernel_rfl) (back_gx _ am hua A c X (Recs.ofRow (S.rowOf (i := 3) rfl) (by omega)) (by rw [hX]; exact feesP_u ok N E) (by omega)) ?_)
  rintro e z ⟨A20, c21, rfl, g⟩
  have S := S.pushThings g
  refine ⟨_, rfl, ?_⟩
  intro a F
  refine l_pure 5 (fun L => (15, .int .i64 ((backP am X).2)) :: (14, .slice A20 (((backP am X).1).length) c21) :: (51, .int .i64 ((backP am X).2)) :: (50, .slice A20 (((backP am X).1).length) c21) :: (46, .tuple #[.slice A20 (((backP am X).1).length) c21, .int .i64 ((backP am X).2)]) :: L) F (by kernel_rfl) fun a F => ?_
  refine l_then ?_
  refine wp_seq ?_
  refine s_reg ?_
  refine l_pure 1 (fun L => (52, .int .i64 ((backP am X).2)) :: L) F (by kernel_rfl) fun a F => ?_
  by_cases ht22 : ((backP am X).2 : Int) = (0 : Int)
  ·
   skip
   have h0 := ht22
   have hal := backP_len X h0
   refine l_do F rfl rfl (op_pure F (v0 := .bool (((backP am X).2 : Int) != (0 : Int))) (v := .bool false) (by kernel_rfl) (neqF ht22) fun a F => ?_)
   refine l_then ?_
   refine c_f F rfl ?_
   refine wp_skip ?_
   refine then_n ?_
   refine wp_seq ?_
   refine s_reg ?_
   refine l_pure 3 (fun L => (57, .int .i64 0) :: (56, .int .i64 (E.length : Nat)) :: (55, .slice Am E.length cm) :: L) F (by kernel_rfl) fun a F => ?_
   refine l_then ?_
   refine wp_block ?_
   refine wp_loop_m (fun m a z => ∃ (i : Nat), m = E.length - i ∧ (i ≤ E.length) ∧ (CanTo x N E (backP am X).1 i) ∧ Fr a 89 [(1, .slice An N.length cn), (2, .slice Am E.length cm), (4, .pointer (some ⟨b1, 0, none⟩)), (8, .pointer (some ⟨b2, 0, none⟩)), (14, .slice A20 (((backP am X).1).length) c21), (55, .slice Am E.length cm), (56, .int .i64 (E.length : Nat)), (57, .int .i64 (i : Nat))] ∧ Sat w z [rest w (· < w.heap.size), box b1 32 [.slice As x.spots.length cs, .slice Ae x.edges.length ce], box b2 47 [.slice none 0 0, .slice none 0 0, .slice none 0 0], row 26 1 (.slice A20 (((backP am X).1).length) c21) (((backP am X).1).length) (((backP am X).1).flatMap iC_u64)]) _ ⟨0, rfl, Nat.zero_le _, (CanTo.zero _ _ _ _), F.sub ⟨by kernel_rfl, by kernel_rfl, by kernel_rfl, by kernel_rfl, by kernel_rfl, by kernel_rfl, by kernel_rfl, by kernel_rfl, trivial⟩, (S.pick [0, 1, 2, 4] (by decide))⟩ ?_
   rintro m a z ⟨i, hm, hf23, hf24, F, S⟩
   have hC := hf24
   refine s_reg ?_
   by_cases ht25 : ((i : Nat) : Int) < ((E.length : Nat) : Int)
   ·
    skip
    obtain ⟨e0, he⟩ : ∃ e0, E[i]? = some e0 := ⟨_, List.getElem?_eq_getElem (by omega)⟩
    obtain ⟨n, hn⟩ : ∃ n, N[i]? = some n := ⟨_, List.getElem?_eq_getElem (by omega)⟩
    obtain ⟨j, rfl, ed, hed, hsd, hnx⟩ := hw.at_ i n e0 hn he
    obtain ⟨a1, ha1⟩ : ∃ a1, (backP am X).1[i]? = some a1 := ⟨_, List.getElem?_eq_getElem (by omega)⟩
    refine l_do F rfl rfl (op_pure F (v0 := .bool (decide (((i : Nat) : Int) < ((E.length : Nat) : Int)))) (v := .bool true) (by kernel_rfl) (lssT ht25) fun a F => ?_)
    refine l_then ?_
    refine wp_seq ?_
    refine c_t F rfl ?_
    refine wp_skip ?_
    refine then_n ?_
    refine wp_seq ?_
    refine wp_block ?_
    refine s_reg ?_
    refine l_pure 1 (fun L => (59, .int .i64 (i : Nat)) :: L) F (by kernel_rfl) fun a F => ?_
    refine l_do F rfl rfl (op_index _ 3 _ _ Am E.length cm i 1 .i64 F rfl (by kernel_rfl) (by kernel_rfl) (by kernel_rfl) (by kernel_rfl) (get_lt he) (recs_some hE (m := i) (get_lt he)) (fun a F => ?_))
    refine l_do F rfl rfl (op_load _ _ Am (i * 1) (.int .i64 (j : Nat)) F rfl (by kernel_rfl) (by kernel_rfl) (cOld S 0 iC_len_i64 hE rfl 0 he rfl) (fun a F => ?_))
    refine l_pure 2 (fun L => (17, .int .i64 (j : Nat)) :: (16, .int .i64 (i : Nat)) :: L) F (by kernel_rfl) fun a F => ?_
    refine l_then ?_
    refine s_reg ?_
    refine l_pure 1 (fun L => (62, .pointer (some ⟨b1, 1, none⟩)) :: L) F (by kernel_rfl) fun a F => ?_
    refine l_do F rfl rfl (op_load _ _ (some ⟨b1, 0, none⟩) 1 (.slice Ae x.edges.length ce) F rfl (by kernel_rfl) (by kernel_rfl) (cBox S 1 rfl (j := 1) rfl) (fun a F => ?_))
    refine l_pure 1 (fun L => (64, .int .i64 (j : Nat)) :: L) F (by kernel_rfl) fun a F => ?_
    refine l_do F rfl rfl (op_index _ 62 _ _ Ae x.edges.length ce j 8 .i64 F rfl (by kernel_rfl) (by kernel_rfl) (by kernel_rfl) (by kernel_rfl) (get_lt hed) (recs_some h.e (m := j) (get_lt hed)) (fun a F => ?_))
    refine l_do F rfl rfl (op_loadK _ _ Ae (j * 8) [.int .i64 ed.a, .int .i64 ed.b, .int .u64 ed.c0, .int .u64 ed.c1, .int .u64 ed.b0, .int .u64 ed.r0, .int .u64 ed.b1, .int .u64 ed.r1] F rfl (by kernel_rfl) (by kernel_rfl) (by kernel_rfl) (by simp) (cOldK0 S 0 edC_len h.e rfl hed (by kernel_rfl)) (fun a F => ?_))
    refine l_do F rfl rfl (op_alloc S _ (.agg #[.int .i64 0, .int .i64 0, .int .u64 0, .int .u64 0, .int .u64 0, .int .u64 0, .int .u64 0, .int .u64 0]) rfl (by kernel_rfl) fun b26 z S a F => ?_)
    refine l_do F rfl rfl (op_storeB S 4 _ _ _ b26 0 (.agg #[.int .i64 ed.a, .int .i64 ed.b, .int .u64 ed.c0, .int .u64 ed.c1, .int .u64 ed.b0, .int .u64 ed.r0, .int .u64 ed.b1, .int .u64 ed.r1]) F rfl rfl (by kernel_rfl) (by kernel_rfl) (by kernel_rfl) (by kernel_rfl) (by kernel_rfl) fun z S a F => ?_)
    refine l_then ?_
    refine wp_seq ?_
    rcases side_cases ed n with ⟨hs, ha⟩ | ⟨hs, hb1, ha⟩ | ⟨hs, ha, hb1⟩
    ·
     skip
     by_cases ht27 : (ed.c0 : Int) < (a1 : Int)
     ·
      skip
      have hf : fillP x N E am = none := by
        have h9 := canB_no hn he ha1 (by rw [can_at0 hed hs]; exact ht27)
        rw [hX] at h9
        exact fill_no h9
      refine region_gx (fun D => fun (_ : Unit) => [rest w (· < w.heap.size), box b1 32 [.slice As x.spots.length cs, .slice Ae x.edges.length ce], box b2 47 [.slice none 0 0, .slice none 0 0, .slice none 0 0], row 26 1 (.slice A20 (((backP am X).1).length) c21) (((backP am X).1).length) (((backP am X).1).flatMap iC_u64), box b26 62 [.int .i64 ed.a, .int .i64 ed.b, .int .u64 ed.c0, .int .u64 ed.c1, .int .u64 ed.b0, .int .u64 ed.r0, .int .u64 ed.b1, .int .u64 ed.r1]]) (fun (_ : Unit) => [.agg #[.int .i64 ed.a, .int .i64 ed.b, .int .u64 ed.c0, .int .u64 ed.c1, .int .u64 ed.b0, .int .u64 ed.r0, .int .u64 ed.b1, .int .u64 ed.r1], .slice An N.length cn, .int .i64 (i : Nat), ptrA An (i * 1), .int .i64 n, .int .i64 0, .pointer (some ⟨b26, 2, none⟩), .pointer (some ⟨b26, 2, none⟩), .int .u64 ed.c0, .slice A20 (((backP am X).1).length) c21, .int .i64 (i : Nat), ptrA A20 (i * 1), .int .u64 a1, .bool true]) [(0, [], [5, 8, 13]), (3, [], [4, 5, 8, 13]), (4, [3], [5, 8, 13]), (5, [0, 3, 4], [8, 13]), (8, [0, 3, 4, 5], [13]), (11, [], [12, 13]), (12, [11], [13]), (13, [0, 3, 4, 5, 8, 11, 12], [])] () rfl (by kernel_rfl) (by kernel_rfl) F S.drew ?_ ?_ ?_ ?_ ?_
      · rintro ⟨⟩; rfl
      · rintro ⟨⟩; kernel_rfl
      ·
       intro D D' x h
       cases x
       rfl
      ·
       refine ⟨?_, ?_⟩
       ·
        refine ⟨_, rfl, rfl, by kernel_rfl, ?_⟩
        rintro D ⟨⟩ a z S F
        refine ⟨by kernel_rfl, ?_⟩
        exact op_loadK _ _ (some ⟨b26, 0, none⟩) 0 [.int .i64 ed.a, .int .i64 ed.b, .int .u64 ed.c0, .int .u64 ed.c1, .int .u64 ed.b0, .int .u64 ed.r0, .int .u64 ed.b1, .int .u64 ed.r1] F rfl (by kernel_rfl) (by kernel_rfl) (by kernel_rfl) (by simp) (cBoxK S 4 rfl 0 (by kernel_rfl)) (⟨(), rfl, (SameB.refl _ _ rfl), S⟩)
       refine ⟨?_, ?_⟩
       ·
        refine ⟨_, rfl, rfl, by kernel_rfl, ?_⟩
        rintro D ⟨⟩ a z S F
        refine ⟨by kernel_rfl, ?_⟩
        exact op_index _ 3 _ _ An N.length cn i 1 .i64 F rfl (by kernel_rfl) (by kernel_rfl) (by kernel_rfl) (by kernel_rfl) (get_lt hn) (recs_some hN (m := i) (get_lt hn)) (⟨(), rfl, (SameB.refl _ _ rfl), S⟩)
       refine ⟨?_, ?_⟩
       ·
        refine ⟨_, rfl, rfl, by kernel_rfl, ?_⟩
        rintro D ⟨⟩ a z S F
        refine ⟨by kernel_rfl, ?_⟩
        exact op_load _ _ An (i * 1) (.int .i64 n) F rfl (by kernel_rfl) (by kernel_rfl) (cOld S 0 iC_len_i64 hN rfl 0 hn rfl) (⟨(), rfl, (SameB.refl _ _ rfl), S⟩)
       refine ⟨?_, ?_⟩
       ·
        refine ⟨_, rfl, rfl, by kernel_rfl, ?_⟩
        rintro D ⟨⟩ a z S F
        refine ⟨by kernel_rfl, ?_⟩
        refine op_fn F (by kernel_rfl) (side_at hs _) ?_
        rintro e z ⟨rfl, hb⟩
        have S := S.grow hb
        exact ⟨_, rfl, (), rfl, (SameB.refl _ _ rfl), S⟩
       refine ⟨?_, ?_⟩
       ·
        refine ⟨_, rfl, rfl, by kernel_rfl, ?_⟩
        rintro D ⟨⟩ a z S F
        refine ⟨by kernel_rfl, ?_⟩
        exact op_load _ _ (some ⟨b26, 0, none⟩) 2 (.int .u64 ed.c0) F rfl (by kernel_rfl) (by kernel_rfl) (cBox S 4 rfl (j := 2) rfl) (⟨(), rfl, (SameB.refl _ _ rfl), S⟩)
       refine ⟨?_, ?_⟩
       ·
        refine ⟨_, rfl, rfl, by kernel_rfl, ?_⟩
        rintro D ⟨⟩ a z S F
        refine ⟨by kernel_rfl, ?_⟩
        exact op_index _ 26 _ _ A20 (((backP am X).1).length) c21 i 1 .i64 F rfl (by kernel_rfl) (by kernel_rfl) (by kernel_rfl) (by kernel_rfl) (get_lt ha1) (row_some S 3 rfl (m := i) (get_lt ha1)) (⟨(), rfl, (SameB.refl _ _ rfl), S⟩)
       refine ⟨?_, ?_⟩
       ·
        refine ⟨_, rfl, rfl, by kernel_rfl, ?_⟩
        rintro D ⟨⟩ a z S F
        refine ⟨by kernel_rfl, ?_⟩
        exact op_load _ _ A20 (i * 1) (.int .u64 a1) F rfl (by kernel_rfl) (by kernel_rfl) (cRec S 3 iC_len_u64 rfl 0 ha1 rfl) (⟨(), rfl, (SameB.refl _ _ rfl), S⟩)
       refine ⟨?_, ?_⟩
       ·
        refine ⟨_, rfl, rfl, by kernel_rfl, ?_⟩
        rintro D ⟨⟩ a z S F
        refine ⟨by kernel_rfl, ?_⟩
        exact op_pure F (v0 := .bool (decide ((ed.c0 : Int) < (a1 : Int)))) (v := .bool true) (by kernel_rfl) (lssT ht27) ⟨(), rfl, (SameB.refl _ _ rfl), S⟩
       trivial
      ·
       rintro ⟨⟩ a z F S
       have F := F.sub (l := [(1, .slice An N.length cn), (2, .slice Am E.length cm), (4, .pointer (some ⟨b1, 0, none⟩)), (8, .pointer (some ⟨b2, 0, none⟩)), (14, .slice A20 (((backP am X).1).length) c21), (55, .slice Am E.length cm), (56, .int .i64 (E.length : Nat)), (57, .int .i64 (i : Nat)), (80, .bool true)]) ⟨by kernel_rfl, by kernel_rfl, by kernel_rfl, by kernel_rfl, by kernel_rfl, by kernel_rfl, by kernel_rfl, by kernel_rfl, by kernel_rfl, trivial⟩
       have S : Sat w z [rest w (· < w.heap.size), box b1 32 [.slice As x.spots.length cs, .slice Ae x.edges.length ce], box b2 47 [.slice none 0 0, .slice none 0 0, .slice none 0 0], row 26 1 (.slice A20 (((backP am X).1).length) c21) (((backP am X).1).length) (((backP am X).1).flatMap iC_u64), box b26 62 [.int .i64 ed.a, .int .i64 ed.b, .int .u64 ed.c0, .int .u64 ed.c1, .int .u64 ed.b0, .int .u64 ed.r0, .int .u64 ed.b1, .int .u64 ed.r1]] := S
       refine then_n ?_
       refine c_t F rfl ?_
       refine s_reg ?_
       refine l_pure 1 (fun L => (81, .agg #[.slice none 0 0, .slice none 0 0, .slice none 0 0]) :: L) F (by kernel_rfl) fun a F => ?_
       refine l_do F rfl rfl (op_storeB S 2 _ _ _ b2 0 (.agg #[.slice none 0 0, .slice none 0 0, .slice none 0 0]) F rfl rfl (by kernel_rfl) (by kernel_rfl) (by kernel_rfl) (by kernel_rfl) (by kernel_rfl) fun z S a F => ?_)
       refine l_pure 1 (fun L => (9, .bool false) :: L) F (by kernel_rfl) fun a F => ?_
       refine l_then ?_
       refine wp_ret ?_
       refine inb_r (then_r (then_r (inb_r (then_r (?_)))))
       exact fin F [.cell 8 47, .tmp 9] [.agg #[.slice none 0 0, .slice none 0 0, .slice none 0 0], .bool false] rfl ⟨⟨_, by kernel_rfl, resK S 2 (cs := [.slice none 0 0, .slice none 0 0, .slice none 0 0]) rfl (by kernel_rfl) (by kernel_rfl) (by simp)⟩, by kernel_rfl, trivial⟩ (.tuple #[.agg #[.slice none 0 0, .slice none 0 0, .slice none 0 0], .bool false]) rfl (.inl ⟨hf, rfl, S.below (i := 0) rfl⟩)
     ·
      skip
      refine region_gx (fun D => fun (_ : Unit) => [rest w (· < w.heap.size), box b1 32 [.slice As x.spots.length cs, .slice Ae x.edges.length ce], box b2 47 [.slice none 0 0, .slice none 0 0, .slice none 0 0], row 26 1 (.slice A20 (((backP am X).1).length) c21) (((backP am X).1).length) (((backP am X).1).flatMap iC_u64), box b26 62 [.int .i64 ed.a, .int .i64 ed.b, .int .u64 ed.c0, .int .u64 ed.c1, .int .u64 ed.b0, .int .u64 ed.r0, .int .u64 ed.b1, .int .u64 ed.r1]]) (fun (_ : Unit) => [.agg #[.int .i64 ed.a, .int .i64 ed.b, .int .u64 ed.c0, .int .u64 ed.c1, .int .u64 ed.b0, .int .u64 ed.r0, .int .u64 ed.b1, .int .u64 ed.r1], .slice An N.length cn, .int .i64 (i : Nat), ptrA An (i * 1), .int .i64 n, .int .i64 0, .pointer (some ⟨b26, 2, none⟩), .pointer (some ⟨b26, 2, none⟩), .int .u64 ed.c0, .slice A20 (((backP am X).1).length) c21, .int .i64 (i : Nat), ptrA A20 (i * 1), .int .u64 a1, .bool false]) [(0, [], [5, 8, 13]), (3, [], [4, 5, 8, 13]), (4, [3], [5, 8, 13]), (5, [0, 3, 4], [8, 13]), (8, [0, 3, 4, 5], [13]), (11, [], [12, 13]), (12, [11], [13]), (13, [0, 3, 4, 5, 8, 11, 12], [])] () rfl (by kernel_rfl) (by kernel_rfl) F S.drew ?_ ?_ ?_ ?_ ?_
      · rintro ⟨⟩; rfl
      · rintro ⟨⟩; kernel_rfl
      ·
       intro D D' x h
       cases x
       rfl
      ·
       refine ⟨?_, ?_⟩
       ·
        refine ⟨_, rfl, rfl, by kernel_rfl, ?_⟩
        rintro D ⟨⟩ a z S F
        refine ⟨by kernel_rfl, ?_⟩
        exact op_loadK _ _ (some ⟨b26, 0, none⟩) 0 [.int .i64 ed.a, .int .i64 ed.b, .int .u64 ed.c0, .int .u64 ed.c1, .int .u64 ed.b0, .int .u64 ed.r0, .int .u64 ed.b1, .int .u64 ed.r1] F rfl (by kernel_rfl) (by kernel_rfl) (by kernel_rfl) (by simp) (cBoxK S 4 rfl 0 (by kernel_rfl)) (⟨(), rfl, (SameB.refl _ _ rfl), S⟩)
       refine ⟨?_, ?_⟩
       ·
        refine ⟨_, rfl, rfl, by kernel_rfl, ?_⟩
        rintro D ⟨⟩ a z S F
        refine ⟨by kernel_rfl, ?_⟩
        exact op_index _ 3 _ _ An N.length cn i 1 .i64 F rfl (by kernel_rfl) (by kernel_rfl) (by kernel_rfl) (by kernel_rfl) (get_lt hn) (recs_some hN (m := i) (get_lt hn)) (⟨(), rfl, (SameB.refl _ _ rfl), S⟩)
       refine ⟨?_, ?_⟩
       ·
        refine ⟨_, rfl, rfl, by kernel_rfl, ?_⟩
        rintro D ⟨⟩ a z S F
        refine ⟨by kernel_rfl, ?_⟩
        exact op_load _ _ An (i * 1) (.int .i64 n) F rfl (by kernel_rfl) (by kernel_rfl) (cOld S 0 iC_len_i64 hN rfl 0 hn rfl) (⟨(), rfl, (SameB.refl _ _ rfl), S⟩)
       refine ⟨?_, ?_⟩
       ·
        refine ⟨_, rfl, rfl, by kernel_rfl, ?_⟩
        rintro D ⟨⟩ a z S F
        refine ⟨by kernel_rfl, ?_⟩
        refine op_fn F (by kernel_rfl) (side_at hs _) ?_
        rintro e z ⟨rfl, hb⟩
        have S := S.grow hb
        exact ⟨_, rfl, (), rfl, (SameB.refl _ _ rfl), S⟩
       refine ⟨?_, ?_⟩
       ·
        refine ⟨_, rfl, rfl, by kernel_rfl, ?_⟩
        rintro D ⟨⟩ a z S F
        refine ⟨by kernel_rfl, ?_⟩
        exact op_load _ _ (some ⟨b26, 0, none⟩) 2 (.int .u64 ed.c0) F rfl (by kernel_rfl) (by kernel_rfl) (cBox S 4 rfl (j := 2) rfl) (⟨(), rfl, (SameB.refl _ _ rfl), S⟩)
       refine ⟨?_, ?_⟩
       ·
        refine ⟨_, rfl, rfl, by kernel_rfl, ?_⟩
        rintro D ⟨⟩ a z S F
        refine ⟨by kernel_rfl, ?_⟩
        exact op_index _ 26 _ _ A20 (((backP am X).1).length) c21 i 1 .i64 F rfl (by kernel_rfl) (by kernel_rfl) (by kernel_rfl) (by kernel_rfl) (get_lt ha1) (row_some S 3 rfl (m := i) (get_lt ha1)) (⟨(), rfl, (SameB.refl _ _ rfl), S⟩)
       refine ⟨?_, ?_⟩
       ·
        refine ⟨_, rfl, rfl, by kernel_rfl, ?_⟩
        rintro D ⟨⟩ a z S F
        refine ⟨by kernel_rfl, ?_⟩
        exact op_load _ _ A20 (i * 1) (.int .u64 a1) F rfl (by kernel_rfl) (by kernel_rfl) (cRec S 3 iC_len_u64 rfl 0 ha1 rfl) (⟨(), rfl, (SameB.refl _ _ rfl), S⟩)
       refine ⟨?_, ?_⟩
       ·
        refine ⟨_, rfl, rfl, by kernel_rfl, ?_⟩
        rintro D ⟨⟩ a z S F
        refine ⟨by kernel_rfl, ?_⟩
        exact op_pure F (v0 := .bool (decide ((ed.c0 : Int) < (a1 : Int)))) (v := .bool false) (by kernel_rfl) (lssF ht27) ⟨(), rfl, (SameB.refl _ _ rfl), S⟩
       trivial
      ·
       rintro ⟨⟩ a z F S
       have F := F.sub (l := [(1, .slice An N.length cn), (2, .slice Am E.length cm), (4, .pointer (some ⟨b1, 0, none⟩)), (8, .pointer (some ⟨b2, 0, none⟩)), (14, .slice A20 (((backP am X).1).length) c21), (55, .slice Am E.length cm), (56, .int .i64 (E.length : Nat)), (57, .int .i64 (i : Nat)), (80, .bool false)]) ⟨by kernel_rfl, by kernel_rfl, by kernel_rfl, by kernel_rfl, by kernel_rfl, by kernel_rfl, by kernel_rfl, by kernel_rfl, by kernel_rfl, trivial⟩
       have S : Sat w z [rest w (· < w.heap.size), box b1 32 [.slice As x.spots.length cs, .slice Ae x.edges.length ce], box b2 47 [.slice none 0 0, .slice none 0 0, .slice none 0 0], row 26 1 (.slice A20 (((backP am X).1).length) c21) (((backP am X).1).length) (((backP am X).1).flatMap iC_u64), box b26 62 [.int .i64 ed.a, .int .i64 ed.b, .int .u64 ed.c0, .int .u64 ed.c1, .int .u64 ed.b0, .int .u64 ed.r0, .int .u64 ed.b1, .int .u64 ed.r1]] := S
       refine then_n ?_
       refine c_f F rfl ?_
       refine wp_skip ?_
       refine inb_n ?_
       refine then_n ?_
       refine wp_region_list ?_
       refine l_do F rfl rfl (op_pure F (v0 := .int .i64 (IntKind.wrap .i64 ((i : Nat) + 1))) (v := .int .i64 (i + 1 : Nat)) (by kernel_rfl) (wrn_i64 (by omega) (by omega) (by omega)) fun a F => ?_)
       refine l_pure 1 (fun L => (57, .int .i64 (i + 1 : Nat)) :: L) F (by kernel_rfl) fun a F => ?_
       refine l_then ?_
       exact ⟨_, (by omega), i + 1, rfl, (by omega), (hC.next hn he ha1 (by rw [can_at0 hed hs]; omega)), F.sub ⟨by kernel_rfl, by kernel_rfl, by kernel_rfl, by kernel_rfl, by kernel_rfl, by kernel_rfl, by kernel_rfl, by kernel_rfl, trivial⟩, (S.pick [0, 1, 2, 3] (by decide))⟩
    ·
     skip
     by_cases ht28 : (ed.c1 : Int) < (a1 : Int)
     ·
      skip
      have hf : fillP x N E am = none := by
        have h9 := canB_no hn he ha1 (by rw [can_at1 hed hs]; exact ht28)
        rw [hX] at h9
        exact fill_no h9
      refine region_gx (fun D => fun (_ : Unit) => [rest w (· < w.heap.size), box b1 32 [.slice As x.spots.length cs, .slice Ae x.edges.length ce], box b2 47 [.slice none 0 0, .slice none 0 0, .slice none 0 0], row 26 1 (.slice A20 (((backP am X).1).length) c21) (((backP am X).1).length) (((backP am X).1).flatMap iC_u64), box b26 62 [.int .i64 ed.a, .int .i64 ed.b, .int .u64 ed.c0, .int .u64 ed.c1, .int .u64 ed.b0, .int .u64 ed.r0, .int .u64 ed.b1, .int .u64 ed.r1]]) (fun (_ : Unit) => [.agg #[.int .i64 ed.a, .int .i64 ed.b, .int .u64 ed.c0, .int .u64 ed.c1, .int .u64 ed.b0, .int .u64 ed.r0, .int .u64 ed.b1, .int .u64 ed.r1], .slice An N.length cn, .int .i64 (i : Nat), ptrA An (i * 1), .int .i64 n, .int .i64 1, .pointer (some ⟨b26, 2, none⟩), .pointer (some ⟨b26, 3, none⟩), .int .u64 ed.c1, .slice A20 (((backP am X).1).length) c21, .int .i64 (i : Nat), ptrA A20 (i * 1), .int .u64 a1, .bool true]) [(0, [], [5, 8, 13]), (3, [], [4, 5, 8, 13]), (4, [3], [5, 8, 13]), (5, [0, 3, 4], [8, 13]), (8, [0, 3, 4, 5], [13]), (11, [], [12, 13]), (12, [11], [13]), (13, [0, 3, 4, 5, 8, 11, 12], [])] () rfl (by kernel_rfl) (by kernel_rfl) F S.drew ?_ ?_ ?_ ?_ ?_
      · rintro ⟨⟩; rfl
      · rintro ⟨⟩; kernel_rfl
      ·
       intro D D' x h
       cases x
       rfl
      ·
       refine ⟨?_, ?_⟩
       ·
        refine ⟨_, rfl, rfl, by kernel_rfl, ?_⟩
        rintro D ⟨⟩ a z S F
        refine ⟨by kernel_rfl, ?_⟩
        exact op_loadK _ _ (some ⟨b26, 0, none⟩) 0 [.int .i64 ed.a, .int .i64 ed.b, .int .u64 ed.c0, .int .u64 ed.c1, .int .u64 ed.b0, .int .u64 ed.r0, .int .u64 ed.b1, .int .u64 ed.r1] F rfl (by kernel_rfl) (by kernel_rfl) (by kernel_rfl) (by simp) (cBoxK S 4 rfl 0 (by kernel_rfl)) (⟨(), rfl, (SameB.refl _ _ rfl), S⟩)
       refine ⟨?_, ?_⟩
       ·
        refine ⟨_, rfl, rfl, by kernel_rfl, ?_⟩
        rintro D ⟨⟩ a z S F
        refine ⟨by kernel_rfl, ?_⟩
        exact op_index _ 3 _ _ An N.length cn i 1 .i64 F rfl (by kernel_rfl) (by kernel_rfl) (by kernel_rfl) (by kernel_rfl) (get_lt hn) (recs_some hN (m := i) (get_lt hn)) (⟨(), rfl, (SameB.refl _ _ rfl), S⟩)
       refine ⟨?_, ?_⟩
       ·
        refine ⟨_, rfl, rfl, by kernel_rfl, ?_⟩
        rintro D ⟨⟩ a z S F
        refine ⟨by kernel_rfl, ?_⟩
        exact op_load _ _ An (i * 1) (.int .i64 n) F rfl (by kernel_rfl) (by kernel_rfl) (cOld S 0 iC_len_i64 hN rfl 0 hn rfl) (⟨(), rfl, (SameB.refl _ _ rfl), S⟩)
       refine ⟨?_, ?_⟩
       ·
        refine ⟨_, rfl, rfl, by kernel_rfl, ?_⟩
        rintro D ⟨⟩ a z S F
        refine ⟨by kernel_rfl, ?_⟩
        refine op_fn F (by kernel_rfl) (side_at hs _) ?_
        rintro e z ⟨rfl, hb⟩
        have S := S.grow hb
        exact ⟨_, rfl, (), rfl, (SameB.refl _ _ rfl), S⟩
       refine ⟨?_, ?_⟩
       ·
        refine ⟨_, rfl, rfl, by kernel_rfl, ?_⟩
        rintro D ⟨⟩ a z S F
        refine ⟨by kernel_rfl, ?_⟩
        exact op_load _ _ (some ⟨b26, 0, none⟩) 3 (.int .u64 ed.c1) F rfl (by kernel_rfl) (by kernel_rfl) (cBox S 4 rfl (j := 3) rfl) (⟨(), rfl, (SameB.refl _ _ rfl), S⟩)
       refine ⟨?_, ?_⟩
       ·
        refine ⟨_, rfl, rfl, by kernel_rfl, ?_⟩
        rintro D ⟨⟩ a z S F
        refine ⟨by kernel_rfl, ?_⟩
        exact op_index _ 26 _ _ A20 (((backP am X).1).length) c21 i 1 .i64 F rfl (by kernel_rfl) (by kernel_rfl) (by kernel_rfl) (by kernel_rfl) (get_lt ha1) (row_some S 3 rfl (m := i) (get_lt ha1)) (⟨(), rfl, (SameB.refl _ _ rfl), S⟩)
       refine ⟨?_, ?_⟩
       ·
        refine ⟨_, rfl, rfl, by kernel_rfl, ?_⟩
        rintro D ⟨⟩ a z S F
        refine ⟨by kernel_rfl, ?_⟩
        exact op_load _ _ A20 (i * 1) (.int .u64 a1) F rfl (by kernel_rfl) (by kernel_rfl) (cRec S 3 iC_len_u64 rfl 0 ha1 rfl) (⟨(), rfl, (SameB.refl _ _ rfl), S⟩)
       refine ⟨?_, ?_⟩
       ·
        refine ⟨_, rfl, rfl, by kernel_rfl, ?_⟩
        rintro D ⟨⟩ a z S F
        refine ⟨by kernel_rfl, ?_⟩
        exact op_pure F (v0 := .bool (decide ((ed.c1 : Int) < (a1 : Int)))) (v := .bool true) (by kernel_rfl) (lssT ht28) ⟨(), rfl, (SameB.refl _ _ rfl), S⟩
       trivial
      ·
       rintro ⟨⟩ a z F S
       have F := F.sub (l := [(1, .slice An N.length cn), (2, .slice Am E.length cm), (4, .pointer (some ⟨b1, 0, none⟩)), (8, .pointer (some ⟨b2, 0, none⟩)), (14, .slice A20 (((backP am X).1).length) c21), (55, .slice Am E.length cm), (56, .int .i64 (E.length : Nat)), (57, .int .i64 (i : Nat)), (80, .bool true)]) ⟨by kernel_rfl, by kernel_rfl, by kernel_rfl, by kernel_rfl, by kernel_rfl, by kernel_rfl, by kernel_rfl, by kernel_rfl, by kernel_rfl, trivial⟩
       have S : Sat w z [rest w (· < w.heap.size), box b1 32 [.slice As x.spots.length cs, .slice Ae x.edges.length ce], box b2 47 [.slice none 0 0, .slice none 0 0, .slice none 0 0], row 26 1 (.slice A20 (((backP am X).1).length) c21) (((backP am X).1).length) (((backP am X).1).flatMap iC_u64), box b26 62 [.int .i64 ed.a, .int .i64 ed.b, .int .u64 ed.c0, .int .u64 ed.c1, .int .u64 ed.b0, .int .u64 ed.r0, .int .u64 ed.b1, .int .u64 ed.r1]] := S
       refine then_n ?_
       refine c_t F rfl ?_
       refine s_reg ?_
       refine l_pure 1 (fun L => (81, .agg #[.slice none 0 0, .slice none 0 0, .slice none 0 0]) :: L) F (by kernel_rfl) fun a F => ?_
       refine l_do F rfl rfl (op_storeB S 2 _ _ _ b2 0 (.agg #[.slice none 0 0, .slice none 0 0, .slice none 0 0]) F rfl rfl (by kernel_rfl) (by kernel_rfl) (by kernel_rfl) (by kernel_rfl) (by kernel_rfl) fun z S a F => ?_)
       refine l_pure 1 (fun L => (9, .bool false) :: L) F (by kernel_rfl) fun a F => ?_
       refine l_then ?_
       refine wp_ret ?_
       refine inb_r (then_r (then_r (inb_r (then_r (?_)))))
       exact fin F [.cell 8 47, .tmp 9] [.agg #[.slice none 0 0, .slice none 0 0, .slice none 0 0], .bool false] rfl ⟨⟨_, by kernel_rfl, resK S 2 (cs := [.slice none 0 0, .slice none 0 0, .slice none 0 0]) rfl (by kernel_rfl) (by kernel_rfl) (by simp)⟩, by kernel_rfl, trivial⟩ (.tuple #[.agg #[.slice none 0 0, .slice none 0 0, .slice none 0 0], .bool false]) rfl (.inl ⟨hf, rfl, S.below (i := 0) rfl⟩)
     ·
      skip
      refine region_gx (fun D => fun (_ : Unit) => [rest w (· < w.heap.size), box b1 32 [.slice As x.spots.length cs, .slice Ae x.edges.length ce], box b2 47 [.slice none 0 0, .slice none 0 0, .slice none 0 0], row 26 1 (.slice A20 (((backP am X).1).length) c21) (((backP am X).1).length) (((backP am X).1).flatMap iC_u64), box b26 62 [.int .i64 ed.a, .int .i64 ed.b, .int .u64 ed.c0, .int .u64 ed.c1, .int .u64 ed.b0, .int .u64 ed.r0, .int .u64 ed.b1, .int .u64 ed.r1]]) (fun (_ : Unit) => [.agg #[.int .i64 ed.a, .int .i64 ed.b, .int .u64 ed.c0, .int .u64 ed.c1, .int .u64 ed.b0, .int .u64 ed.r0, .int .u64 ed.b1, .int .u64 ed.r1], .slice An N.length cn, .int .i64 (i : Nat), ptrA An (i * 1), .int .i64 n, .int .i64 1, .pointer (some ⟨b26, 2, none⟩), .pointer (some ⟨b26, 3, none⟩), .int .u64 ed.c1, .slice A20 (((backP am X).1).length) c21, .int .i64 (i : Nat), ptrA A20 (i * 1), .int .u64 a1, .bool false]) [(0, [], [5, 8, 13]), (3, [], [4, 5, 8, 13]), (4, [3], [5, 8, 13]), (5, [0, 3, 4], [8, 13]), (8, [0, 3, 4, 5], [13]), (11, [], [12, 13]), (12, [11], [13]), (13, [0, 3, 4, 5, 8, 11, 12], [])] () rfl (by kernel_rfl) (by kernel_rfl) F S.drew ?_ ?_ ?_ ?_ ?_
      · rintro ⟨⟩; rfl
      · rintro ⟨⟩; kernel_rfl
      ·
       intro D D' x h
       cases x
       rfl
      ·
       refine ⟨?_, ?_⟩
       ·
        refine ⟨_, rfl, rfl, by kernel_rfl, ?_⟩
        rintro D ⟨⟩ a z S F
        refine ⟨by kernel_rfl, ?_⟩
        exact op_loadK _ _ (some ⟨b26, 0, none⟩) 0 [.int .i64 ed.a, .int .i64 ed.b, .int .u64 ed.c0, .int .u64 ed.c1, .int .u64 ed.b0, .int .u64 ed.r0, .int .u64 ed.b1, .int .u64 ed.r1] F rfl (by kernel_rfl) (by kernel_rfl) (by kernel_rfl) (by simp) (cBoxK S 4 rfl 0 (by kernel_rfl)) (⟨(), rfl, (SameB.refl _ _ rfl), S⟩)
       refine ⟨?_, ?_⟩
       ·
        refine ⟨_, rfl, rfl, by kernel_rfl, ?_⟩
        rintro D ⟨⟩ a z S F
        refine ⟨by kernel_rfl, ?_⟩
        exact op_index _ 3 _ _ An N.length cn i 1 .i64 F rfl (by kernel_rfl) (by kernel_rfl) (by kernel_rfl) (by kernel_rfl) (get_lt hn) (recs_some hN (m := i) (get_lt hn)) (⟨(), rfl, (SameB.refl _ _ rfl), S⟩)
       refine ⟨?_, ?_⟩
       ·
        refine ⟨_, rfl, rfl, by kernel_rfl, ?_⟩
        rintro D ⟨⟩ a z S F
        refine ⟨by kernel_rfl, ?_⟩
        exact op_load _ _ An (i * 1) (.int .i64 n) F rfl (by kernel_rfl) (by kernel_rfl) (cOld S 0 iC_len_i64 hN rfl 0 hn rfl) (⟨(), rfl, (SameB.refl _ _ rfl), S⟩)
       refine ⟨?_, ?_⟩
       ·
        refine ⟨_, rfl, rfl, by kernel_rfl, ?_⟩
        rintro D ⟨⟩ a z S F
        refine ⟨by kernel_rfl, ?_⟩
        refine op_fn F (by kernel_rfl) (side_at hs _) ?_
        rintro e z ⟨rfl, hb⟩
        have S := S.grow hb
        exact ⟨_, rfl, (), rfl, (SameB.refl _ _ rfl), S⟩
       refine ⟨?_, ?_⟩
       ·
        refine ⟨_, rfl, rfl, by kernel_rfl, ?_⟩
        rintro D ⟨⟩ a z S F
        refine ⟨by kernel_rfl, ?_⟩
        exact op_load _ _ (some ⟨b26, 0, none⟩) 3 (.int .u64 ed.c1) F rfl (by kernel_rfl) (by kernel_rfl) (cBox S 4 rfl (j := 3) rfl) (⟨(), rfl, (SameB.refl _ _ rfl), S⟩)
       refine ⟨?_, ?_⟩
       ·
        refine ⟨_, rfl, rfl, by kernel_rfl, ?_⟩
        rintro D ⟨⟩ a z S F
        refine ⟨by kernel_rfl, ?_⟩
        exact op_index _ 26 _ _ A20 (((backP am X).1).length) c21 i 1 .i64 F rfl (by kernel_rfl) (by kernel_rfl) (by kernel_rfl) (by kernel_rfl) (get_lt ha1) (row_some S 3 rfl (m := i) (get_lt ha1)) (⟨(), rfl, (SameB.refl _ _ rfl), S⟩)
       refine ⟨?_, ?_⟩
       ·
        refine ⟨_, rfl, rfl, by kernel_rfl, ?_⟩
        rintro D ⟨⟩ a z S F
        refine ⟨by kernel_rfl, ?_⟩
        exact op_load _ _ A20 (i * 1) (.int .u64 a1) F rfl (by kernel_rfl) (by kernel_rfl) (cRec S 3 iC_len_u64 rfl 0 ha1 rfl) (⟨(), rfl, (SameB.refl _ _ rfl), S⟩)
       refine ⟨?_, ?_⟩
       ·
        refine ⟨_, rfl, rfl, by kernel_rfl, ?_⟩
        rintro D ⟨⟩ a z S F
        refine ⟨by kernel_rfl, ?_⟩
        exact op_pure F (v0 := .bool (decide ((ed.c1 : Int) < (a1 : Int)))) (v := .bool false) (by kernel_rfl) (lssF ht28) ⟨(), rfl, (SameB.refl _ _ rfl), S⟩
       trivial
      ·
       rintro ⟨⟩ a z F S
       have F := F.sub (l := [(1, .slice An N.length cn), (2, .slice Am E.length cm), (4, .pointer (some ⟨b1, 0, none⟩)), (8, .pointer (some ⟨b2, 0, none⟩)), (14, .slice A20 (((backP am X).1).length) c21), (55, .slice Am E.length cm), (56, .int .i64 (E.length : Nat)), (57, .int .i64 (i : Nat)), (80, .bool false)]) ⟨by kernel_rfl, by kernel_rfl, by kernel_rfl, by kernel_rfl, by kernel_rfl, by kernel_rfl, by kernel_rfl, by kernel_rfl, by kernel_rfl, trivial⟩
       have S : Sat w z [rest w (· < w.heap.size), box b1 32 [.slice As x.spots.length cs, .slice Ae x.edges.length ce], box b2 47 [.slice none 0 0, .slice none 0 0, .slice none 0 0], row 26 1 (.slice A20 (((backP am X).1).length) c21) (((backP am X).1).length) (((backP am X).1).flatMap iC_u64), box b26 62 [.int .i64 ed.a, .int .i64 ed.b, .int .u64 ed.c0, .int .u64 ed.c1, .int .u64 ed.b0, .int .u64 ed.r0, .int .u64 ed.b1, .int .u64 ed.r1]] := S
       refine then_n ?_
       refine c_f F rfl ?_
       refine wp_skip ?_
       refine inb_n ?_
       refine then_n ?_
       refine wp_region_list ?_
       refine l_do F rfl rfl (op_pure F (v0 := .int .i64 (IntKind.wrap .i64 ((i : Nat) + 1))) (v := .int .i64 (i + 1 : Nat)) (by kernel_rfl) (wrn_i64 (by omega) (by omega) (by omega)) fun a F => ?_)
       refine l_pure 1 (fun L => (57, .int .i64 (i + 1 : Nat)) :: L) F (by kernel_rfl) fun a F => ?_
       refine l_then ?_
       exact ⟨_, (by omega), i + 1, rfl, (by omega), (hC.next hn he ha1 (by rw [can_at1 hed hs]; omega)), F.sub ⟨by kernel_rfl, by kernel_rfl, by kernel_rfl, by kernel_rfl, by kernel_rfl, by kernel_rfl, by kernel_rfl, by kernel_rfl, trivial⟩, (S.pick [0, 1, 2, 3] (by decide))⟩
    · exact absurd hsd (by rw [hs]; decide)
   ·
    skip
    refine l_do F rfl rfl (op_pure F (v0 := .bool (decide (((i : Nat) : Int) < ((E.length : Nat) : Int)))) (v := .bool false) (by kernel_rfl) (lssF ht25) fun a F => ?_)
    refine l_then ?_
    refine wp_seq ?_
    refine c_f F rfl ?_
    refine wp_exit ?_
    refine then_x ?_
    refine then_x ?_
    refine inb_x ?_
    refine then_n ?_
    refine s_reg ?_
    refine l_pure 1 (fun L => (83, .slice An N.length cn) :: L) F (by kernel_rfl) fun a F => ?_
    refine l_do F rfl rfl (op_fn F (by kernel_rfl) (cloneI_any _ An cn N (hN.mono (src_rest S (i := 0) rfl hN.src (src_lt hN.src))) (by omega)) ?_)
    rintro e z ⟨A29, c30, rfl, g⟩
    have S := S.pushThings g
    refine ⟨_, rfl, ?_⟩
    intro a F
    refine l_pure 1 (fun L => (85, .slice Am E.length cm) :: L) F (by kernel_rfl) fun a F => ?_
    refine l_do F rfl rfl (op_fn F (by kernel_rfl) (cloneI_any _ Am cm E (hE.mono (src_rest S (i := 0) rfl hE.src (src_lt hE.src))) (by omega)) ?_)
    rintro e z ⟨A31, c32, rfl, g⟩
    have S := S.pushThings g
    refine ⟨_, rfl, ?_⟩
    intro a F
    refine l_pure 2 (fun L => (88, .agg #[.slice A29 N.length c30, .slice A31 E.length c32, .slice A20 (((backP am X).1).length) c21]) :: (87, .slice A20 (((backP am X).1).length) c21) :: L) F (by kernel_rfl) fun a F => ?_
    refine l_do F rfl rfl (op_storeB S 2 _ _ _ b2 0 (.agg #[.slice A29 N.length c30, .slice A31 E.length c32, .slice A20 (((backP am X).1).length) c21]) F rfl rfl (by kernel_rfl) (by kernel_rfl) (by kernel_rfl) (by kernel_rfl) (by kernel_rfl) fun z S a F => ?_)
    refine l_pure 1 (fun L => (9, .bool true) :: L) F (by kernel_rfl) fun a F => ?_
    refine l_then ?_
    refine wp_ret ?_
    have hf : fillP x N E am = some ⟨N, E, (backP am X).1⟩ := by
      have h9 := hC.all (by omega)
      rw [hX] at h0 h9 ⊢
      exact fill_some h0 h9
    exact fin F [.cell 8 47, .tmp 9] [.agg #[.slice A29 N.length c30, .slice A31 E.length c32, .slice A20 (((backP am X).1).length) c21], .bool true] rfl ⟨⟨_, by kernel_rfl, resK S 2 (cs := [.slice A29 N.length c30, .slice A31 E.length c32, .slice A20 (((backP am X).1).length) c21]) rfl (by kernel_rfl) (by kernel_rfl) (by simp)⟩, by kernel_rfl, trivial⟩ (.tuple #[.agg #[.slice A29 N.length c30, .slice A31 E.length c32, .slice A20 (((backP am X).1).length) c21], .bool true]) rfl (.inr ⟨⟨N, E, (backP am X).1⟩, hf, _, _, _, _, _, _, rfl, S.pick [0, 4, 5, 3] (by decide)⟩)
  ·
   skip
   have h0 := ht22
   have hf : fillP x N E am = none := by rw [hX] at h0; exact fill_err h0
   refine l_do F rfl rfl (op_pure F (v0 := .bool (((backP am X).2 : Int) != (0 : Int))) (v := .bool true) (by kernel_rfl) (neqT ht22) fun a F => ?_)
   refine l_then ?_
   refine c_t F rfl ?_
   refine s_reg ?_
   refine l_pure 1 (fun L => (54, .agg #[.slice none 0 0, .slice none 0 0, .slice none 0 0]) :: L) F (by kernel_rfl) fun a F => ?_
   refine l_do F rfl rfl (op_storeB S 2 _ _ _ b2 0 (.agg #[.slice none 0 0, .slice none 0 0, .slice none 0 0]) F rfl rfl (by kernel_rfl) (by kernel_rfl) (by kernel_rfl) (by kernel_rfl) (by kernel_rfl) fun z S a F => ?_)
   refine l_pure 1 (fun L => (9, .bool false) :: L) F (by kernel_rfl) fun a F => ?_
   refine l_then ?_
   refine wp_ret ?_
   refine then_r (?_)
   exact fin F [.cell 8 47, .tmp 9] [.agg #[.slice none 0 0, .slice none 0 0, .slice none 0 0], .bool false] rfl ⟨⟨_, by kernel_rfl, resK S 2 (cs := [.slice none 0 0, .slice none 0 0, .slice none 0 0]) rfl (by kernel_rfl) (by kernel_rfl) (by simp)⟩, by kernel_rfl, trivial⟩ (.tuple #[.agg #[.slice none 0 0, .slice none 0 0, .slice none 0 0], .bool false]) rfl (.inl ⟨hf, rfl, S.below (i := 0) rfl⟩)
theorem fill_got (w : World) (As : Option Addr) (cs : Nat) (Ae : Option Addr) (ce : Nat) (x : Wb) (h : WebAt w As cs Ae ce x) (ok : x.Ok) (An : Option Addr) (cn : Nat) (N : List Int) (hN : Recs 1 iC_i64 w An cn N) (Am : Option Addr) (cm : Nat) (E : List Int) (hE : Recs 1 iC_i64 w Am cm E) (am : Int) (hua : U64 am) (hw : WayOk x N E) (hl : E.length ≤ 7) {r : Rt} (hf : fillP x N E am = some r) : Calls Try.prog 56 #[.agg #[.slice As x.spots.length cs, .slice Ae x.edges.length ce], .slice An N.length cn, .slice Am E.length cm, .int .u64 am] w fun e w' => ∃ A1 c1 A2 c2 A3 c3, e = .returned (.tuple #[.agg #[.slice A1 r.nodes.length c1, .slice A2 r.edges.length c2, .slice A3 r.amts.length c3], .bool true]) ∧ Sat w w' [rest w (· < w.heap.size), row 3 1 (.slice A1 r.nodes.length c1) r.nodes.length (r.nodes.flatMap iC_i64), row 3 1 (.slice A2 r.edges.length c2) r.edges.length (r.edges.flatMap iC_i64), row 26 1 (.slice A3 r.amts.length c3) r.amts.length (r.amts.flatMap iC_u64)] := (fill_any w As cs Ae ce x h ok An cn N hN Am cm E hE am hua hw hl).mono fun e w' h9 => by
  rcases h9 with ⟨h1, _⟩ | ⟨r2, h1, h2⟩
  · rw [hf] at h1; cases h1
  · rw [hf] at h1; cases h1; exact h2
theorem fill_not (w : World) (As : Option Addr) (cs : Nat) (Ae : Option Addr) (ce : Nat) (x : Wb) (h : WebAt w As cs Ae ce x) (ok : x.Ok) (An : Option Addr) (cn : Nat) (N : List Int) (hN : Recs 1 iC_i64 w An cn N) (Am : Option Addr) (cm : Nat) (E : List Int) (hE : Recs 1 iC_i64 w Am cm E) (am : Int) (hua : U64 am) (hw : WayOk x N E) (hl : E.length ≤ 7) (hf : fillP x N E am = none) : Calls Try.prog 56 #[.agg #[.slice As x.spots.length cs, .slice Ae x.edges.length ce], .slice An N.length cn, .slice Am E.length cm, .int .u64 am] w fun e w' => e = .returned (.tuple #[.agg #[.slice none 0 0, .slice none 0 0, .slice none 0 0], .bool false]) ∧ Below w.heap.size w w' := (fill_any w As cs Ae ce x h ok An cn N hN Am cm E hE am hua hw hl).mono fun e w' h9 => by
  rcases h9 with ⟨_, h1⟩ | ⟨r2, h1, h2⟩
  · exact h1
  · rw [hf] at h1; cases h1
theorem fill_cases (x : Wb) (N E : List Int) (am : Int) : fillP x N E am = none ∨ ∃ r, fillP x N E am = some r := by
  cases fillP x N E am with
  | none => exact .inl rfl
  | some r => exact .inr ⟨r, rfl⟩
end Go.Proofs.Ytcfpbemoocegfaa
