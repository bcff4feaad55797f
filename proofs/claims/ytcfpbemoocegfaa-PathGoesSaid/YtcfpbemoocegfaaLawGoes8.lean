/- The law PathGoes. -/
import Derived.Test.YtcfpbemoocegfaaGoes
import Derived.Test.YtcfpbemoocegfaaSame8
import Derived.Test.YtcfpbemoocegfaaAwake08
import Derived.Test.YtcfpbemoocegfaaReadWeb
import Derived.Test.YtcfpbemoocegfaaWebFrom
namespace Go.Proofs.Ytcfpbemoocegfaa
set_option linter.unusedVariables false
set_option linter.unusedSimpArgs false
set_option linter.unnecessarySimpa false
open Go Go.RowKit

theorem same_eq {x y : Wb} (hxy : x = y) (w : World) (As : Option Addr) (cs : Nat) (Ae : Option Addr) (ce : Nat) (h : WebAt w As cs Ae ce x) (ok : x.Ok) (As2 : Option Addr) (cs2 : Nat) (Ae2 : Option Addr) (ce2 : Nat) (h2 : WebAt w As2 cs2 Ae2 ce2 y) : Calls Try.prog 29 #[.agg #[.slice As x.spots.length cs, .slice Ae x.edges.length ce], .agg #[.slice As2 y.spots.length cs2, .slice Ae2 y.edges.length ce2]] w fun e w' => e = .returned (.bool true) ∧ Below w.heap.size w w' := by
  subst hxy
  exact same_any w As cs Ae ce x h ok As2 cs2 Ae2 ce2 h2
theorem rsent_at2 (w : World) (As : Option Addr) (cs : Nat) (Ae : Option Addr) (ce : Nat) (x : Wb) (h : WebAt w As cs Ae ce x) (ok : x.Ok) (eg nd am : Int) (hua : U64 am) (hl1 : x.spots.length ≤ 1000) (hl2 : x.edges.length ≤ 1000) {y : Wb} {er : Int} (hs : sentP x eg nd am = (y, er)) {w0 : World} (h0 : Recs 2 spC w0 As cs x.spots) : Calls Try.prog 28 #[.agg #[.slice As x.spots.length cs, .slice Ae x.edges.length ce], .int .i64 eg, .int .i64 nd, .int .u64 am] w fun e w' => ∃ A1 c1 A2 c2, e = .returned (.tuple #[.agg #[.slice A1 y.spots.length c1, .slice A2 y.edges.length c2], .int .i64 er]) ∧ Recs 2 spC w0 A1 c1 y.spots ∧ Sat w w' [rest w (· < w.heap.size), row 104 8 (.slice A2 y.edges.length c2) y.edges.length (y.edges.flatMap edC)] := (rsent_at w As cs Ae ce x h ok eg nd am hua hl1 hl2 hs).mono fun e w' => by
  rintro ⟨A1, c1, A2, c2, rfl, ⟨h1, rfl, rfl⟩ | ⟨h1, rfl, rfl, _⟩, S⟩
  · exact ⟨_, _, _, _, rfl, by rw [sent_spots hs h1]; exact h0, S⟩
  · refine ⟨_, _, _, _, rfl, ?_, S⟩
    rw [sent_err hs h1]; exact recs_nil9 _
theorem goes_same (w : World) (As : Option Addr) (cs : Nat) (Ae : Option Addr) (ce : Nat) (x : Wb) (h : WebAt w As cs Ae ce x) (ok : x.Ok) (An : Option Addr) (cn : Nat) (N : List Int) (hN : Recs 1 iC_i64 w An cn N) (Aed : Option Addr) (ced : Nat) (E : List Int) (hE : Recs 1 iC_i64 w Aed ced E) (Aa : Option Addr) (ca : Nat) (A : List Int) (hA : Recs 1 iC_u64 w Aa ca A) (hAu : ∀ a ∈ A, U64 a) (hl1 : x.spots.length ≤ 1000) (hl2 : x.edges.length ≤ 1000) {yr : Wb} {er : Int} (hg : goX x E N A = (yr, er)) (hz : lensP E N A ∧ E.length = 0 ∧ er = 0) (hyx : yr = x) : Calls Try.prog 26 #[.agg #[.slice An N.length cn, .slice Aed E.length ced, .slice Aa A.length ca], .agg #[.slice As x.spots.length cs, .slice Ae x.edges.length ce]] w fun e w' => e = .returned (.tuple #[.agg #[.slice As x.spots.length cs, .slice Ae x.edges.length ce], .int .i64 0]) ∧ Below w.heap.size w w' := (goes_nil w As cs Ae ce x h ok An cn N hN Aed ced E hE Aa ca A hA hAu hl1 hl2 hg hz).mono fun e w' => by
  rintro ⟨rfl, hb⟩
  exact ⟨by rw [hyx, hz.2.2], hb⟩
set_option maxRecDepth 100000 in
set_option maxHeartbeats 4000000 in
theorem goes_law (w : World) (As : Option Addr) (cs : Nat) (Ae : Option Addr) (ce : Nat) (x : Wb) (h : WebAt w As cs Ae ce x) (ok : x.Ok) (An : Option Addr) (cn : Nat) (N : List Int) (hN : Recs 1 iC_i64 w An cn N) (Aed : Option Addr) (ced : Nat) (E : List Int) (hE : Recs 1 iC_i64 w Aed ced E) (Aa : Option Addr) (ca : Nat) (A : List Int) (hA : Recs 1 iC_u64 w Aa ca A) (hAu : ∀ a ∈ A, U64 a) : Calls Try.prog 5 #[.agg #[.slice As x.spots.length cs, .slice Ae x.edges.length ce], .agg #[.slice An N.length cn, .slice Aed E.length ced, .slice Aa A.length ca]] w fun e w' => e = .returned (.bool true) ∧ Below w.heap.size w w' := by
 refine enter 122 Try.func5 rfl rfl rfl fun a F => ?_
 have hN9 := hN.len
 have hE9 := hE.len
 have hA9 := hA.len
 obtain ⟨yr, er, hg⟩ : ∃ yr er, goX x E N A = (yr, er) := ⟨_, _, rfl⟩
 obtain ⟨okr, hr3, hr4⟩ := goX_fit ok hAu hg
 have S := Sat.pushRest w
 refine s_reg ?_
 refine l_do F rfl rfl (op_box S _ _ (.agg #[.slice As x.spots.length cs, .slice Ae x.edges.length ce]) F rfl (by kernel_rfl) fun b1 z S a F => ?_)
 refine l_do F rfl rfl (op_box S _ _ (.agg #[.slice An N.length cn, .slice Aed E.length ced, .slice Aa A.length ca]) F rfl (by kernel_rfl) fun b2 z S a F => ?_)
 refine l_pure 1 (fun L => (4, .bool false) :: L) F (by kernel_rfl) fun a F => ?_
 refine l_then ?_
 refine wp_seq ?_
 refine s_reg ?_
 refine l_do F rfl rfl (op_loadK _ _ (some ⟨b1, 0, none⟩) 0 [.slice As x.spots.length cs, .slice Ae x.edges.length ce] F rfl (by kernel_rfl) (by kernel_rfl) (by kernel_rfl) (by simp) (cBoxK S 1 rfl 0 (by kernel_rfl)) (fun a F => ?_))
 cases hb3 : (lightP x) with
 | false =>
  refine l_do F rfl rfl (op_fn F (by kernel_rfl) (light_any _ As cs Ae ce x) ?_)
  rintro e z ⟨rfl, hb⟩
  have S := S.grow hb
  refine ⟨_, rfl, ?_⟩
  rw [hb3]
  intro a F
  refine l_pure 19 (fun L => (30, .bool true) :: (29, undef) :: (28, undef) :: (27, undef) :: (26, undef) :: (25, .bool true) :: (24, .bool true) :: (23, undef) :: (22, undef) :: (21, undef) :: (20, undef) :: (19, .bool true) :: (18, .bool true) :: (17, undef) :: (16, undef) :: (15, undef) :: (14, undef) :: (13, .bool true) :: (12, .bool true) :: L) F (by kernel_rfl) fun a F => ?_
  refine l_then ?_
  refine c_t F rfl ?_
  refine s_reg ?_
  refine l_do F rfl rfl (op_fn F (by kernel_rfl) (awake08_any _) ?_)
  rintro e z ⟨rfl, hb⟩
  have S := S.grow hb
  refine ⟨_, rfl, ?_⟩
  intro a F
  refine l_pure 1 (fun L => (4, .bool true) :: L) F (by kernel_rfl) fun a F => ?_
  refine l_then ?_
  refine wp_ret ?_
  refine then_r (?_)
  exact fin F [.tmp 4] [.bool true] rfl ⟨by kernel_rfl, trivial⟩ (.bool true) rfl ⟨rfl, S.below (i := 0) rfl⟩
 | true =>
  obtain ⟨l1, l2, l3, l4⟩ := light_small hb3
  have hr1 : yr.spots.length ≤ 1000 := by omega
  have hr2 : yr.edges.length ≤ 1000 := by omega
  refine l_do F rfl rfl (op_fn F (by kernel_rfl) (light_any _ As cs Ae ce x) ?_)
  rintro e z ⟨rfl, hb⟩
  have S := S.grow hb
  refine ⟨_, rfl, ?_⟩
  rw [hb3]
  intro a F
  refine l_pure 3 (fun L => (14, .pointer (some ⟨b2, 1, none⟩)) :: (13, .bool false) :: (12, .bool false) :: L) F (by kernel_rfl) fun a F => ?_
  refine l_do F rfl rfl (op_load _ _ (some ⟨b2, 0, none⟩) 1 (.slice Aed E.length ced) F rfl (by kernel_rfl) (by kernel_rfl) (cBox S 2 rfl (j := 1) rfl) (fun a F => ?_))
  refine l_pure 1 (fun L => (16, .int .i64 (E.length : Nat)) :: L) F (by kernel_rfl) fun a F => ?_
  by_cases ht4 : (20 : Int) < ((E.length : Nat) : Int)
  ·
   skip
   refine l_do F rfl rfl (op_pure F (v0 := .bool (decide (((E.length : Nat) : Int) > (20 : Int)))) (v := .bool true) (by kernel_rfl) (gtrT ht4) fun a F => ?_)
   refine l_pure 13 (fun L => (30, .bool true) :: (29, undef) :: (28, undef) :: (27, undef) :: (26, undef) :: (25, .bool true) :: (24, .bool true) :: (23, undef) :: (22, undef) :: (21, undef) :: (20, undef) :: (19, .bool true) :: (18, .bool true) :: L) F (by kernel_rfl) fun a F => ?_
   refine l_then ?_
   refine c_t F rfl ?_
   refine s_reg ?_
   refine l_do F rfl rfl (op_fn F (by kernel_rfl) (awake08_any _) ?_)
   rintro e z ⟨rfl, hb⟩
   have S := S.grow hb
   refine ⟨_, rfl, ?_⟩
   intro a F
   refine l_pure 1 (fun L => (4, .bool true) :: L) F (by kernel_rfl) fun a F => ?_
   refine l_then ?_
   refine wp_ret ?_
   refine then_r (?_)
   exact fin F [.tmp 4] [.bool true] rfl ⟨by kernel_rfl, trivial⟩ (.bool true) rfl ⟨rfl, S.below (i := 0) rfl⟩
  ·
   skip
   refine l_do F rfl rfl (op_pure F (v0 := .bool (decide (((E.length : Nat) : Int) > (20 : Int)))) (v := .bool false) (by kernel_rfl) (gtrF ht4) fun a F => ?_)
   refine l_pure 3 (fun L => (20, .pointer (some ⟨b2, 0, none⟩)) :: (19, .bool false) :: (18, .bool false) :: L) F (by kernel_rfl) fun a F => ?_
   refine l_do F rfl rfl (op_load _ _ (some ⟨b2, 0, none⟩) 0 (.slice An N.length cn) F rfl (by kernel_rfl) (by kernel_rfl) (cBox S 2 rfl (j := 0) rfl) (fun a F => ?_))
   refine l_pure 1 (fun L => (22, .int .i64 (N.length : Nat)) :: L) F (by kernel_rfl) fun a F => ?_
   by_cases ht5 : (20 : Int) < ((N.length : Nat) : Int)
   ·
    skip
    refine l_do F rfl rfl (op_pure F (v0 := .bool (decide (((N.length : Nat) : Int) > (20 : Int)))) (v := .bool true) (by kernel_rfl) (gtrT ht5) fun a F => ?_)
    refine l_pure 7 (fun L => (30, .bool true) :: (29, undef) :: (28, undef) :: (27, undef) :: (26, undef) :: (25, .bool true) :: (24, .bool true) :: L) F (by kernel_rfl) fun a F => ?_
    refine l_then ?_
    refine c_t F rfl ?_
    refine s_reg ?_
    refine l_do F rfl rfl (op_fn F (by kernel_rfl) (awake08_any _) ?_)
    rintro e z ⟨rfl, hb⟩
    have S := S.grow hb
    refine ⟨_, rfl, ?_⟩
    intro a F
    refine l_pure 1 (fun L => (4, .bool true) :: L) F (by kernel_rfl) fun a F => ?_
    refine l_then ?_
    refine wp_ret ?_
    refine then_r (?_)
    exact fin F [.tmp 4] [.bool true] rfl ⟨by kernel_rfl, trivial⟩ (.bool true) rfl ⟨rfl, S.below (i := 0) rfl⟩
   ·
    skip
    refine l_do F rfl rfl (op_pure F (v0 := .bool (decide (((N.length : Nat) : Int) > (20 : Int)))) (v := .bool false) (by kernel_rfl) (gtrF ht5) fun a F => ?_)
    refine l_pure 3 (fun L => (26, .pointer (some ⟨b2, 2, none⟩)) :: (25, .bool false) :: (24, .bool false) :: L) F (by kernel_rfl) fun a F => ?_
    refine l_do F rfl rfl (op_load _ _ (some ⟨b2, 0, none⟩) 2 (.slice Aa A.length ca) F rfl (by kernel_rfl) (by kernel_rfl) (cBox S 2 rfl (j := 2) rfl) (fun a F => ?_))
    refine l_pure 1 (fun L => (28, .int .i64 (A.length : Nat)) :: L) F (by kernel_rfl) fun a F => ?_
    by_cases ht6 : (20 : Int) < ((A.length : Nat) : Int)
    ·
     skip
     refine l_do F rfl rfl (op_pure F (v0 := .bool (decide (((A.length : Nat) : Int) > (20 : Int)))) (v := .bool true) (by kernel_rfl) (gtrT ht6) fun a F => ?_)
     refine l_pure 1 (fun L => (30, .bool true) :: L) F (by kernel_rfl) fun a F => ?_
     refine l_then ?_
     refine c_t F rfl ?_
     refine s_reg ?_
     refine l_do F rfl rfl (op_fn F (by kernel_rfl) (awake08_any _) ?_)
     rintro e z ⟨rfl, hb⟩
     have S := S.grow hb
     refine ⟨_, rfl, ?_⟩
     intro a F
     refine l_pure 1 (fun L => (4, .bool true) :: L) F (by kernel_rfl) fun a F => ?_
     refine l_then ?_
     refine wp_ret ?_
     refine then_r (?_)
     exact fin F [.tmp 4] [.bool true] rfl ⟨by kernel_rfl, trivial⟩ (.bool true) rfl ⟨rfl, S.below (i := 0) rfl⟩
    ·
     skip
     refine l_do F rfl rfl (op_pure F (v0 := .bool (decide (((A.length : Nat) : Int) > (20 : Int)))) (v := .bool false) (by kernel_rfl) (gtrF ht6) fun a F => ?_)
     refine l_pure 1 (fun L => (30, .bool false) :: L) F (by kernel_rfl) fun a F => ?_
     refine l_then ?_
     refine c_f F rfl ?_
     refine wp_skip ?_
     refine then_n ?_
     refine wp_seq ?_
     rcases goX_cases hg with ⟨hlens, hq1, hq2⟩ | ⟨hlens, hc0, hE0, hq2, hq1⟩ | ⟨hlens, hne⟩
     ·
      skip
      have S := S.pushEmp.pushEmp.pushEmp.pushEmp.pushEmp
      refine region_gx (fun D => fun ((A11, c12, A13, c14, A15, c16, A17, c18, b19) : Option Addr × Nat × Option Addr × Nat × Option Addr × Nat × Option Addr × Nat × Nat) => [rest w (· < w.heap.size), box b1 25 [.slice As x.spots.length cs, .slice Ae x.edges.length ce], box b2 45 [.slice An N.length cn, .slice Aed E.length ced, .slice Aa A.length ca], bif D 8 then row 107 2 (.slice A11 x.spots.length c12) x.spots.length (x.spots.flatMap spC) else emp, bif D 8 then row 62 8 (.slice A13 x.edges.length c14) x.edges.length (x.edges.flatMap edC) else emp, bif D 9 then row 107 2 (.slice A15 yr.spots.length c16) yr.spots.length (yr.spots.flatMap spC) else emp, bif D 9 then row 62 8 (.slice A17 yr.edges.length c18) yr.edges.length (yr.edges.flatMap edC) else emp, bif D 14 then box b19 32 [.slice A15 yr.spots.length c16, .slice A17 yr.edges.length c18] else (bif D 13 then box b19 32 [.slice none 0 0, .slice none 0 0] else emp)]) (fun ((A11, c12, A13, c14, A15, c16, A17, c18, b19) : Option Addr × Nat × Option Addr × Nat × Option Addr × Nat × Option Addr × Nat × Nat) => [.pointer (some ⟨b2, 0, none⟩), .slice An N.length cn, .pointer (some ⟨b2, 1, none⟩), .slice Aed E.length ced, .pointer (some ⟨b2, 2, none⟩), .slice Aa A.length ca, .agg #[.slice An N.length cn, .slice Aed E.length ced, .slice Aa A.length ca], .agg #[.slice As x.spots.length cs, .slice Ae x.edges.length ce], .agg #[.slice A11 x.spots.length c12, .slice A13 x.edges.length c14], .tuple #[.agg #[.slice A15 yr.spots.length c16, .slice A17 yr.edges.length c18], .int .i64 er], .tuple #[.agg #[.slice A15 yr.spots.length c16, .slice A17 yr.edges.length c18], .int .i64 er], .agg #[.slice A15 yr.spots.length c16, .slice A17 yr.edges.length c18], .int .i64 er, .pointer (some ⟨b19, 0, none⟩), undef, .int .i64 er]) [(1, [], [9, 14]), (3, [], [9, 14]), (5, [], [9, 14]), (7, [], [8, 9, 14]), (8, [7], [9, 14]), (9, [1, 3, 5, 7, 8], [14]), (13, [], [14]), (14, [1, 3, 5, 7, 8, 9, 13], [])] (none, 0, none, 0, none, 0, none, 0, 0) rfl (by kernel_rfl) (by kernel_rfl) F S.drew ?_ ?_ ?_ ?_ ?_
      · rintro ⟨A11, c12, A13, c14, A15, c16, A17, c18, b19⟩; rfl
      · rintro ⟨A11, c12, A13, c14, A15, c16, A17, c18, b19⟩; kernel_rfl
      ·
       intro D D' x h
       obtain ⟨A11, c12, A13, c14, A15, c16, A17, c18, b19⟩ := x
       simp only [h 8 (by decide), h 9 (by decide), h 13 (by decide), h 14 (by decide)]
      ·
       refine ⟨?_, ?_⟩
       ·
        refine ⟨_, rfl, rfl, by kernel_rfl, ?_⟩
        rintro D ⟨A11, c12, A13, c14, A15, c16, A17, c18, b19⟩ a z S F
        refine ⟨by kernel_rfl, ?_⟩
        exact op_load _ _ (some ⟨b2, 0, none⟩) 0 (.slice An N.length cn) F rfl (by kernel_rfl) (by kernel_rfl) (cBox S 2 rfl (j := 0) rfl) (⟨(A11, c12, A13, c14, A15, c16, A17, c18, b19), rfl, (SameB.refl _ _ rfl), S⟩)
       refine ⟨?_, ?_⟩
       ·
        refine ⟨_, rfl, rfl, by kernel_rfl, ?_⟩
        rintro D ⟨A11, c12, A13, c14, A15, c16, A17, c18, b19⟩ a z S F
        refine ⟨by kernel_rfl, ?_⟩
        exact op_load _ _ (some ⟨b2, 0, none⟩) 1 (.slice Aed E.length ced) F rfl (by kernel_rfl) (by kernel_rfl) (cBox S 2 rfl (j := 1) rfl) (⟨(A11, c12, A13, c14, A15, c16, A17, c18, b19), rfl, (SameB.refl _ _ rfl), S⟩)
       refine ⟨?_, ?_⟩
       ·
        refine ⟨_, rfl, rfl, by kernel_rfl, ?_⟩
        rintro D ⟨A11, c12, A13, c14, A15, c16, A17, c18, b19⟩ a z S F
        refine ⟨by kernel_rfl, ?_⟩
        exact op_load _ _ (some ⟨b2, 0, none⟩) 2 (.slice Aa A.length ca) F rfl (by kernel_rfl) (by kernel_rfl) (cBox S 2 rfl (j := 2) rfl) (⟨(A11, c12, A13, c14, A15, c16, A17, c18, b19), rfl, (SameB.refl _ _ rfl), S⟩)
       refine ⟨?_, ?_⟩
       ·
        refine ⟨_, rfl, rfl, by kernel_rfl, ?_⟩
        rintro D ⟨A11, c12, A13, c14, A15, c16, A17, c18, b19⟩ a z S F
        refine ⟨by kernel_rfl, ?_⟩
        exact op_loadK _ _ (some ⟨b1, 0, none⟩) 0 [.slice As x.spots.length cs, .slice Ae x.edges.length ce] F rfl (by kernel_rfl) (by kernel_rfl) (by kernel_rfl) (by simp) (cBoxK S 1 rfl 0 (by kernel_rfl)) (⟨(A11, c12, A13, c14, A15, c16, A17, c18, b19), rfl, (SameB.refl _ _ rfl), S⟩)
       refine ⟨?_, ?_⟩
       ·
        refine ⟨_, rfl, rfl, by kernel_rfl, ?_⟩
        rintro D ⟨A11, c12, A13, c14, A15, c16, A17, c18, b19⟩ a z S F
        refine ⟨by kernel_rfl, ?_⟩
        refine op_fn F (by kernel_rfl) (to_any _ As cs Ae ce x (h.move S rfl) ok ⟨l1, l2⟩) ?_
        rintro e z ⟨y20, y21, y22, y23, rfl, g⟩
        have S := S.fillThing2 3 4 rfl rfl (by decide) g
        exact ⟨_, rfl, (y20, y21, y22, y23, A15, c16, A17, c18, b19), rfl, ⟨rfl, rfl, rfl, rfl, rfl, rfl, rfl, rfl, trivial, trivial, trivial, trivial, trivial, rfl, trivial, trivial, trivial⟩, S⟩
       refine ⟨?_, ?_⟩
       ·
        refine ⟨_, rfl, rfl, by kernel_rfl, ?_⟩
        rintro D ⟨A11, c12, A13, c14, A15, c16, A17, c18, b19⟩ a z S F
        refine ⟨by kernel_rfl, ?_⟩
        refine op_fn F (by kernel_rfl) (goes_new _ A11 c12 A13 c14 x (WebAt.ofNew (x := x) (w := w) S (i := 3) (j := 4) rfl rfl ⟨l1, l2⟩) ok An cn N (hN.mono (src_rest S (i := 0) rfl hN.src (src_lt hN.src))) Aed ced E (hE.mono (src_rest S (i := 0) rfl hE.src (src_lt hE.src))) Aa ca A (hA.mono (src_rest S (i := 0) rfl hA.src (src_lt hA.src))) hAu l1 l2 hg (fun h9 => hlens h9.1)) ?_
        rintro e z ⟨y28, y29, y30, y31, rfl, g⟩
        have S := S.fillThing2 5 6 rfl rfl (by decide) g
        exact ⟨_, rfl, (A11, c12, A13, c14, y28, y29, y30, y31, b19), rfl, ⟨rfl, rfl, rfl, rfl, rfl, rfl, rfl, rfl, rfl, trivial, trivial, trivial, trivial, rfl, trivial, trivial, trivial⟩, S⟩
       refine ⟨?_, ?_⟩
       ·
        refine ⟨_, rfl, rfl, by kernel_rfl, ?_⟩
        rintro D ⟨A11, c12, A13, c14, A15, c16, A17, c18, b19⟩ a z S F
        refine ⟨by kernel_rfl, ?_⟩
        exact op_allocF S 7 rfl _ (.agg #[.slice none 0 0, .slice none 0 0]) rfl (by kernel_rfl) fun y36 z S => ⟨(A11, c12, A13, c14, A15, c16, A17, c18, y36), rfl, ⟨rfl, rfl, rfl, rfl, rfl, rfl, rfl, rfl, rfl, rfl, rfl, rfl, rfl, trivial, trivial, trivial, trivial⟩, S⟩
       refine ⟨?_, ?_⟩
       ·
        refine ⟨_, rfl, rfl, by kernel_rfl, ?_⟩
        rintro D ⟨A11, c12, A13, c14, A15, c16, A17, c18, b19⟩ a z S F
        refine ⟨by kernel_rfl, ?_⟩
        exact op_storeB S 7 _ _ _ b19 0 (.agg #[.slice A15 yr.spots.length c16, .slice A17 yr.edges.length c18]) F rfl rfl (by kernel_rfl) (by kernel_rfl) (by kernel_rfl) (by kernel_rfl) (by kernel_rfl) fun z S => ⟨(A11, c12, A13, c14, A15, c16, A17, c18, b19), rfl, (SameB.refl _ _ rfl), S⟩
       trivial
      ·
       rintro ⟨A11, c12, A13, c14, A15, c16, A17, c18, b19⟩ a z F S
       have F := F.sub (l := [(2, .pointer (some ⟨b1, 0, none⟩)), (3, .pointer (some ⟨b2, 0, none⟩)), (5, .pointer (some ⟨b19, 0, none⟩)), (6, .int .i64 er)]) ⟨by kernel_rfl, by kernel_rfl, by kernel_rfl, by kernel_rfl, trivial⟩
       have S : Sat w z [rest w (· < w.heap.size), box b1 25 [.slice As x.spots.length cs, .slice Ae x.edges.length ce], box b2 45 [.slice An N.length cn, .slice Aed E.length ced, .slice Aa A.length ca], row 107 2 (.slice A11 x.spots.length c12) x.spots.length (x.spots.flatMap spC), row 62 8 (.slice A13 x.edges.length c14) x.edges.length (x.edges.flatMap edC), row 107 2 (.slice A15 yr.spots.length c16) yr.spots.length (yr.spots.flatMap spC), row 62 8 (.slice A17 yr.edges.length c18) yr.edges.length (yr.edges.flatMap edC), box b19 32 [.slice A15 yr.spots.length c16, .slice A17 yr.edges.length c18]] := S
       refine then_n ?_
       refine wp_seq ?_
       refine s_reg ?_
       refine l_pure 1 (fun L => (45, .pointer (some ⟨b2, 1, none⟩)) :: L) F (by kernel_rfl) fun a F => ?_
       refine l_do F rfl rfl (op_load _ _ (some ⟨b2, 0, none⟩) 1 (.slice Aed E.length ced) F rfl (by kernel_rfl) (by kernel_rfl) (cBox S 2 rfl (j := 1) rfl) (fun a F => ?_))
       refine l_pure 2 (fun L => (48, .pointer (some ⟨b2, 2, none⟩)) :: (47, .int .i64 (E.length : Nat)) :: L) F (by kernel_rfl) fun a F => ?_
       refine l_do F rfl rfl (op_load _ _ (some ⟨b2, 0, none⟩) 2 (.slice Aa A.length ca) F rfl (by kernel_rfl) (by kernel_rfl) (cBox S 2 rfl (j := 2) rfl) (fun a F => ?_))
       refine l_pure 1 (fun L => (50, .int .i64 (A.length : Nat)) :: L) F (by kernel_rfl) fun a F => ?_
       by_cases ht37 : ((E.length : Nat) : Int) = ((A.length : Nat) : Int)
       ·
        skip
        refine l_do F rfl rfl (op_pure F (v0 := .bool (((E.length : Nat) : Int) != ((A.length : Nat) : Int))) (v := .bool false) (by kernel_rfl) (neqF ht37) fun a F => ?_)
        refine l_pure 2 (fun L => (53, .pointer (some ⟨b2, 0, none⟩)) :: (52, .bool false) :: L) F (by kernel_rfl) fun a F => ?_
        refine l_do F rfl rfl (op_load _ _ (some ⟨b2, 0, none⟩) 0 (.slice An N.length cn) F rfl (by kernel_rfl) (by kernel_rfl) (cBox S 2 rfl (j := 0) rfl) (fun a F => ?_))
        refine l_pure 2 (fun L => (56, .pointer (some ⟨b2, 1, none⟩)) :: (55, .int .i64 (N.length : Nat)) :: L) F (by kernel_rfl) fun a F => ?_
        refine l_do F rfl rfl (op_load _ _ (some ⟨b2, 0, none⟩) 1 (.slice Aed E.length ced) F rfl (by kernel_rfl) (by kernel_rfl) (cBox S 2 rfl (j := 1) rfl) (fun a F => ?_))
        refine l_pure 1 (fun L => (58, .int .i64 (E.length : Nat)) :: L) F (by kernel_rfl) fun a F => ?_
        refine l_do F rfl rfl (op_pure F (v0 := .int .i64 (IntKind.wrap .i64 ((E.length : Nat) + 1))) (v := .int .i64 (E.length + 1 : Nat)) (by kernel_rfl) (wrn_i64 (by omega) (by omega) (by omega)) fun a F => ?_)
        by_cases ht38 : ((N.length : Nat) : Int) = ((E.length + 1 : Nat) : Int)
        · exact absurd (⟨by omega, by omega⟩ : lensP E N A) hlens
        ·
         skip
         refine l_do F rfl rfl (op_pure F (v0 := .bool (((N.length : Nat) : Int) != ((E.length + 1 : Nat) : Int))) (v := .bool true) (by kernel_rfl) (neqT ht38) fun a F => ?_)
         refine l_pure 1 (fun L => (61, .bool true) :: L) F (by kernel_rfl) fun a F => ?_
         refine l_then ?_
         refine c_t F rfl ?_
         refine s_reg ?_
         refine l_do F rfl rfl (op_fn F (by kernel_rfl) (awake08_any _) ?_)
         rintro e z ⟨rfl, hb⟩
         have S := S.grow hb
         refine ⟨_, rfl, ?_⟩
         intro a F
         refine l_pure 2 (fun L => (64, .int .i64 er) :: (63, .bool true) :: L) F (by kernel_rfl) fun a F => ?_
         refine l_do F rfl rfl (op_pure F (v0 := .bool ((er : Int) == (1 : Int))) (v := .bool true) (by kernel_rfl) (eqlT hq2) fun a F => ?_)
         refine l_pure 3 (fun L => (68, .pointer (some ⟨b19, 0, none⟩)) :: (67, .bool true) :: (66, .bool true) :: L) F (by kernel_rfl) fun a F => ?_
         refine l_do F rfl rfl (op_load _ _ (some ⟨b19, 0, none⟩) 0 (.slice A15 yr.spots.length c16) F rfl (by kernel_rfl) (by kernel_rfl) (cBox S 7 rfl (j := 0) rfl) (fun a F => ?_))
         refine l_pure 1 (fun L => (70, .int .i64 (yr.spots.length : Nat)) :: L) F (by kernel_rfl) fun a F => ?_
         refine l_do F rfl rfl (op_pure F (v0 := .bool (((yr.spots.length : Nat) : Int) == (0 : Int))) (v := .bool true) (by kernel_rfl) (eqlT (by rw [hq1]; rfl)) fun a F => ?_)
         refine l_pure 2 (fun L => (4, .bool true) :: (72, .bool true) :: L) F (by kernel_rfl) fun a F => ?_
         refine l_then ?_
         refine wp_ret ?_
         refine then_r (?_)
         exact fin F [.tmp 4] [.bool true] rfl ⟨by kernel_rfl, trivial⟩ (.bool true) rfl ⟨rfl, S.below (i := 0) rfl⟩
       ·
        skip
        refine l_do F rfl rfl (op_pure F (v0 := .bool (((E.length : Nat) : Int) != ((A.length : Nat) : Int))) (v := .bool true) (by kernel_rfl) (neqT ht37) fun a F => ?_)
        refine l_pure 10 (fun L => (61, .bool true) :: (60, undef) :: (59, undef) :: (58, undef) :: (57, undef) :: (56, undef) :: (55, undef) :: (54, undef) :: (53, undef) :: (52, .bool true) :: L) F (by kernel_rfl) fun a F => ?_
        refine l_then ?_
        refine c_t F rfl ?_
        refine s_reg ?_
        refine l_do F rfl rfl (op_fn F (by kernel_rfl) (awake08_any _) ?_)
        rintro e z ⟨rfl, hb⟩
        have S := S.grow hb
        refine ⟨_, rfl, ?_⟩
        intro a F
        refine l_pure 2 (fun L => (64, .int .i64 er) :: (63, .bool true) :: L) F (by kernel_rfl) fun a F => ?_
        refine l_do F rfl rfl (op_pure F (v0 := .bool ((er : Int) == (1 : Int))) (v := .bool true) (by kernel_rfl) (eqlT hq2) fun a F => ?_)
        refine l_pure 3 (fun L => (68, .pointer (some ⟨b19, 0, none⟩)) :: (67, .bool true) :: (66, .bool true) :: L) F (by kernel_rfl) fun a F => ?_
        refine l_do F rfl rfl (op_load _ _ (some ⟨b19, 0, none⟩) 0 (.slice A15 yr.spots.length c16) F rfl (by kernel_rfl) (by kernel_rfl) (cBox S 7 rfl (j := 0) rfl) (fun a F => ?_))
        refine l_pure 1 (fun L => (70, .int .i64 (yr.spots.length : Nat)) :: L) F (by kernel_rfl) fun a F => ?_
        refine l_do F rfl rfl (op_pure F (v0 := .bool (((yr.spots.length : Nat) : Int) == (0 : Int))) (v := .bool true) (by kernel_rfl) (eqlT (by rw [hq1]; rfl)) fun a F => ?_)
        refine l_pure 2 (fun L => (4, .bool true) :: (72, .bool true) :: L) F (by kernel_rfl) fun a F => ?_
        refine l_then ?_
        refine wp_ret ?_
        refine then_r (?_)
        exact fin F [.tmp 4] [.bool true] rfl ⟨by kernel_rfl, trivial⟩ (.bool true) rfl ⟨rfl, S.below (i := 0) rfl⟩
     ·
      skip
      have S := S.pushEmp.pushEmp.pushEmp
      refine region_gx (fun D => fun ((A39, c40, A41, c42, b43) : Option Addr × Nat × Option Addr × Nat × Nat) => [rest w (· < w.heap.size), box b1 25 [.slice As x.spots.length cs, .slice Ae x.edges.length ce], box b2 45 [.slice An N.length cn, .slice Aed E.length ced, .slice Aa A.length ca], bif D 8 then row 107 2 (.slice A39 x.spots.length c40) x.spots.length (x.spots.flatMap spC) else emp, bif D 8 then row 62 8 (.slice A41 x.edges.length c42) x.edges.length (x.edges.flatMap edC) else emp, bif D 14 then box b43 32 [.slice A39 x.spots.length c40, .slice A41 x.edges.length c42] else (bif D 13 then box b43 32 [.slice none 0 0, .slice none 0 0] else emp)]) (fun ((A39, c40, A41, c42, b43) : Option Addr × Nat × Option Addr × Nat × Nat) => [.pointer (some ⟨b2, 0, none⟩), .slice An N.length cn, .pointer (some ⟨b2, 1, none⟩), .slice Aed E.length ced, .pointer (some ⟨b2, 2, none⟩), .slice Aa A.length ca, .agg #[.slice An N.length cn, .slice Aed E.length ced, .slice Aa A.length ca], .agg #[.slice As x.spots.length cs, .slice Ae x.edges.length ce], .agg #[.slice A39 x.spots.length c40, .slice A41 x.edges.length c42], .tuple #[.agg #[.slice A39 x.spots.length c40, .slice A41 x.edges.length c42], .int .i64 0], .tuple #[.agg #[.slice A39 x.spots.length c40, .slice A41 x.edges.length c42], .int .i64 0], .agg #[.slice A39 x.spots.length c40, .slice A41 x.edges.length c42], .int .i64 0, .pointer (some ⟨b43, 0, none⟩), undef, .int .i64 0]) [(1, [], [9, 14]), (3, [], [9, 14]), (5, [], [9, 14]), (7, [], [8, 9, 14]), (8, [7], [9, 14]), (9, [1, 3, 5, 7, 8], [14]), (13, [], [14]), (14, [1, 3, 5, 7, 8, 9, 13], [])] (none, 0, none, 0, 0) rfl (by kernel_rfl) (by kernel_rfl) F S.drew ?_ ?_ ?_ ?_ ?_
      · rintro ⟨A39, c40, A41, c42, b43⟩; rfl
      · rintro ⟨A39, c40, A41, c42, b43⟩; kernel_rfl
      ·
       intro D D' x h
       obtain ⟨A39, c40, A41, c42, b43⟩ := x
       simp only [h 8 (by decide), h 13 (by decide), h 14 (by decide)]
      ·
       refine ⟨?_, ?_⟩
       ·
        refine ⟨_, rfl, rfl, by kernel_rfl, ?_⟩
        rintro D ⟨A39, c40, A41, c42, b43⟩ a z S F
        refine ⟨by kernel_rfl, ?_⟩
        exact op_load _ _ (some ⟨b2, 0, none⟩) 0 (.slice An N.length cn) F rfl (by kernel_rfl) (by kernel_rfl) (cBox S 2 rfl (j := 0) rfl) (⟨(A39, c40, A41, c42, b43), rfl, (SameB.refl _ _ rfl), S⟩)
       refine ⟨?_, ?_⟩
       ·
        refine ⟨_, rfl, rfl, by kernel_rfl, ?_⟩
        rintro D ⟨A39, c40, A41, c42, b43⟩ a z S F
        refine ⟨by kernel_rfl, ?_⟩
        exact op_load _ _ (some ⟨b2, 0, none⟩) 1 (.slice Aed E.length ced) F rfl (by kernel_rfl) (by kernel_rfl) (cBox S 2 rfl (j := 1) rfl) (⟨(A39, c40, A41, c42, b43), rfl, (SameB.refl _ _ rfl), S⟩)
       refine ⟨?_, ?_⟩
       ·
        refine ⟨_, rfl, rfl, by kernel_rfl, ?_⟩
        rintro D ⟨A39, c40, A41, c42, b43⟩ a z S F
        refine ⟨by kernel_rfl, ?_⟩
        exact op_load _ _ (some ⟨b2, 0, none⟩) 2 (.slice Aa A.length ca) F rfl (by kernel_rfl) (by kernel_rfl) (cBox S 2 rfl (j := 2) rfl) (⟨(A39, c40, A41, c42, b43), rfl, (SameB.refl _ _ rfl), S⟩)
       refine ⟨?_, ?_⟩
       ·
        refine ⟨_, rfl, rfl, by kernel_rfl, ?_⟩
        rintro D ⟨A39, c40, A41, c42, b43⟩ a z S F
        refine ⟨by kernel_rfl, ?_⟩
        exact op_loadK _ _ (some ⟨b1, 0, none⟩) 0 [.slice As x.spots.length cs, .slice Ae x.edges.length ce] F rfl (by kernel_rfl) (by kernel_rfl) (by kernel_rfl) (by simp) (cBoxK S 1 rfl 0 (by kernel_rfl)) (⟨(A39, c40, A41, c42, b43), rfl, (SameB.refl _ _ rfl), S⟩)
       refine ⟨?_, ?_⟩
       ·
        refine ⟨_, rfl, rfl, by kernel_rfl, ?_⟩
        rintro D ⟨A39, c40, A41, c42, b43⟩ a z S F
        refine ⟨by kernel_rfl, ?_⟩
        refine op_fn F (by kernel_rfl) (to_any _ As cs Ae ce x (h.move S rfl) ok ⟨l1, l2⟩) ?_
        rintro e z ⟨y44, y45, y46, y47, rfl, g⟩
        have S := S.fillThing2 3 4 rfl rfl (by decide) g
        exact ⟨_, rfl, (y44, y45, y46, y47, b43), rfl, ⟨rfl, rfl, rfl, rfl, rfl, rfl, rfl, rfl, trivial, trivial, trivial, trivial, trivial, rfl, trivial, trivial, trivial⟩, S⟩
       refine ⟨?_, ?_⟩
       ·
        refine ⟨_, rfl, rfl, by kernel_rfl, ?_⟩
        rintro D ⟨A39, c40, A41, c42, b43⟩ a z S F
        refine ⟨by kernel_rfl, ?_⟩
        refine op_fn F (by kernel_rfl) (goes_same _ A39 c40 A41 c42 x (WebAt.ofNew (x := x) (w := w) S (i := 3) (j := 4) rfl rfl ⟨l1, l2⟩) ok An cn N (hN.mono (src_rest S (i := 0) rfl hN.src (src_lt hN.src))) Aed ced E (hE.mono (src_rest S (i := 0) rfl hE.src (src_lt hE.src))) Aa ca A (hA.mono (src_rest S (i := 0) rfl hA.src (src_lt hA.src))) hAu l1 l2 hg ⟨hlens, hE0, hq2⟩ hq1) ?_
        rintro e z ⟨rfl, hb⟩
        have S := S.grow hb
        exact ⟨_, rfl, (A39, c40, A41, c42, b43), rfl, (SameB.refl _ _ rfl), S⟩
       refine ⟨?_, ?_⟩
       ·
        refine ⟨_, rfl, rfl, by kernel_rfl, ?_⟩
        rintro D ⟨A39, c40, A41, c42, b43⟩ a z S F
        refine ⟨by kernel_rfl, ?_⟩
        exact op_allocF S 5 rfl _ (.agg #[.slice none 0 0, .slice none 0 0]) rfl (by kernel_rfl) fun y52 z S => ⟨(A39, c40, A41, c42, y52), rfl, ⟨rfl, rfl, rfl, rfl, rfl, rfl, rfl, rfl, rfl, rfl, rfl, rfl, rfl, trivial, trivial, trivial, trivial⟩, S⟩
       refine ⟨?_, ?_⟩
       ·
        refine ⟨_, rfl, rfl, by kernel_rfl, ?_⟩
        rintro D ⟨A39, c40, A41, c42, b43⟩ a z S F
        refine ⟨by kernel_rfl, ?_⟩
        exact op_storeB S 5 _ _ _ b43 0 (.agg #[.slice A39 x.spots.length c40, .slice A41 x.edges.length c42]) F rfl rfl (by kernel_rfl) (by kernel_rfl) (by kernel_rfl) (by kernel_rfl) (by kernel_rfl) fun z S => ⟨(A39, c40, A41, c42, b43), rfl, (SameB.refl _ _ rfl), S⟩
       trivial
      ·
       rintro ⟨A39, c40, A41, c42, b43⟩ a z F S
       have F := F.sub (l := [(2, .pointer (some ⟨b1, 0, none⟩)), (3, .pointer (some ⟨b2, 0, none⟩)), (5, .pointer (some ⟨b43, 0, none⟩)), (6, .int .i64 0)]) ⟨by kernel_rfl, by kernel_rfl, by kernel_rfl, by kernel_rfl, trivial⟩
       have S : Sat w z [rest w (· < w.heap.size), box b1 25 [.slice As x.spots.length cs, .slice Ae x.edges.length ce], box b2 45 [.slice An N.length cn, .slice Aed E.length ced, .slice Aa A.length ca], row 107 2 (.slice A39 x.spots.length c40) x.spots.length (x.spots.flatMap spC), row 62 8 (.slice A41 x.edges.length c42) x.edges.length (x.edges.flatMap edC), box b43 32 [.slice A39 x.spots.length c40, .slice A41 x.edges.length c42]] := S
       refine then_n ?_
       refine wp_seq ?_
       refine s_reg ?_
       refine l_pure 1 (fun L => (45, .pointer (some ⟨b2, 1, none⟩)) :: L) F (by kernel_rfl) fun a F => ?_
       refine l_do F rfl rfl (op_load _ _ (some ⟨b2, 0, none⟩) 1 (.slice Aed E.length ced) F rfl (by kernel_rfl) (by kernel_rfl) (cBox S 2 rfl (j := 1) rfl) (fun a F => ?_))
       refine l_pure 2 (fun L => (48, .pointer (some ⟨b2, 2, none⟩)) :: (47, .int .i64 (E.length : Nat)) :: L) F (by kernel_rfl) fun a F => ?_
       refine l_do F rfl rfl (op_load _ _ (some ⟨b2, 0, none⟩) 2 (.slice Aa A.length ca) F rfl (by kernel_rfl) (by kernel_rfl) (cBox S 2 rfl (j := 2) rfl) (fun a F => ?_))
       refine l_pure 1 (fun L => (50, .int .i64 (A.length : Nat)) :: L) F (by kernel_rfl) fun a F => ?_
       refine l_do F rfl rfl (op_pure F (v0 := .bool (((E.length : Nat) : Int) != ((A.length : Nat) : Int))) (v := .bool false) (by kernel_rfl) (neqF (by have := hlens.1; omega)) fun a F => ?_)
       refine l_pure 2 (fun L => (53, .pointer (some ⟨b2, 0, none⟩)) :: (52, .bool false) :: L) F (by kernel_rfl) fun a F => ?_
       refine l_do F rfl rfl (op_load _ _ (some ⟨b2, 0, none⟩) 0 (.slice An N.length cn) F rfl (by kernel_rfl) (by kernel_rfl) (cBox S 2 rfl (j := 0) rfl) (fun a F => ?_))
       refine l_pure 2 (fun L => (56, .pointer (some ⟨b2, 1, none⟩)) :: (55, .int .i64 (N.length : Nat)) :: L) F (by kernel_rfl) fun a F => ?_
       refine l_do F rfl rfl (op_load _ _ (some ⟨b2, 0, none⟩) 1 (.slice Aed E.length ced) F rfl (by kernel_rfl) (by kernel_rfl) (cBox S 2 rfl (j := 1) rfl) (fun a F => ?_))
       refine l_pure 1 (fun L => (58, .int .i64 (E.length : Nat)) :: L) F (by kernel_rfl) fun a F => ?_
       refine l_do F rfl rfl (op_pure F (v0 := .int .i64 (IntKind.wrap .i64 ((E.length : Nat) + 1))) (v := .int .i64 (E.length + 1 : Nat)) (by kernel_rfl) (wrn_i64 (by omega) (by omega) (by omega)) fun a F => ?_)
       refine l_do F rfl rfl (op_pure F (v0 := .bool (((N.length : Nat) : Int) != ((E.length + 1 : Nat) : Int))) (v := .bool false) (by kernel_rfl) (neqF (by have := hlens.2; omega)) fun a F => ?_)
       refine l_pure 1 (fun L => (61, .bool false) :: L) F (by kernel_rfl) fun a F => ?_
       refine l_then ?_
       refine c_f F rfl ?_
       refine wp_skip ?_
       refine then_n ?_
       refine wp_seq ?_
       have S := S.pushEmp
       refine region_gx (fun D => fun (b53 : Nat) => [rest w (· < w.heap.size), box b1 25 [.slice As x.spots.length cs, .slice Ae x.edges.length ce], box b2 45 [.slice An N.length cn, .slice Aed E.length ced, .slice Aa A.length ca], row 107 2 (.slice A39 x.spots.length c40) x.spots.length (x.spots.flatMap spC), row 62 8 (.slice A41 x.edges.length c42) x.edges.length (x.edges.flatMap edC), box b43 32 [.slice A39 x.spots.length c40, .slice A41 x.edges.length c42], bif D 4 then box b53 25 [.slice As x.spots.length cs, .slice Ae x.edges.length ce] else (bif D 3 then box b53 25 [.slice none 0 0, .slice none 0 0] else emp)]) (fun (b53 : Nat) => [.agg #[.slice As x.spots.length cs, .slice Ae x.edges.length ce], .agg #[.slice As x.spots.length cs, .slice Ae x.edges.length ce], .int .i64 (chkP x), .pointer (some ⟨b53, 0, none⟩), undef, .int .i64 (chkP x)]) [(0, [], [4]), (1, [], [2, 4]), (2, [1], [4]), (3, [], [4]), (4, [0, 1, 2, 3], [])] 0 rfl (by kernel_rfl) (by kernel_rfl) F S.drew ?_ ?_ ?_ ?_ ?_
       · rintro b53; rfl
       · rintro b53; kernel_rfl
       ·
        intro D D' x h
        obtain b53 := x
        simp only [h 3 (by decide), h 4 (by decide)]
       ·
        refine ⟨?_, ?_⟩
        ·
         refine ⟨_, rfl, rfl, by kernel_rfl, ?_⟩
         rintro D b53 a z S F
         refine ⟨by kernel_rfl, ?_⟩
         exact op_loadK _ _ (some ⟨b1, 0, none⟩) 0 [.slice As x.spots.length cs, .slice Ae x.edges.length ce] F rfl (by kernel_rfl) (by kernel_rfl) (by kernel_rfl) (by simp) (cBoxK S 1 rfl 0 (by kernel_rfl)) (⟨b53, rfl, (SameB.refl _ _ rfl), S⟩)
        refine ⟨?_, ?_⟩
        ·
         refine ⟨_, rfl, rfl, by kernel_rfl, ?_⟩
         rintro D b53 a z S F
         refine ⟨by kernel_rfl, ?_⟩
         exact op_loadK _ _ (some ⟨b1, 0, none⟩) 0 [.slice As x.spots.length cs, .slice Ae x.edges.length ce] F rfl (by kernel_rfl) (by kernel_rfl) (by kernel_rfl) (by simp) (cBoxK S 1 rfl 0 (by kernel_rfl)) (⟨b53, rfl, (SameB.refl _ _ rfl), S⟩)
        refine ⟨?_, ?_⟩
        ·
         refine ⟨_, rfl, rfl, by kernel_rfl, ?_⟩
         rintro D b53 a z S F
         refine ⟨by kernel_rfl, ?_⟩
         refine op_fn F (by kernel_rfl) (rcheck_any _ As cs Ae ce x (h.move S rfl) ok) ?_
         rintro e z ⟨rfl, hb⟩
         have S := S.grow hb
         exact ⟨_, rfl, b53, rfl, (SameB.refl _ _ rfl), S⟩
        refine ⟨?_, ?_⟩
        ·
         refine ⟨_, rfl, rfl, by kernel_rfl, ?_⟩
         rintro D b53 a z S F
         refine ⟨by kernel_rfl, ?_⟩
         exact op_allocF S 6 rfl _ (.agg #[.slice none 0 0, .slice none 0 0]) rfl (by kernel_rfl) fun y54 z S => ⟨y54, rfl, ⟨rfl, rfl, rfl, trivial, trivial, trivial, trivial⟩, S⟩
        refine ⟨?_, ?_⟩
        ·
         refine ⟨_, rfl, rfl, by kernel_rfl, ?_⟩
         rintro D b53 a z S F
         refine ⟨by kernel_rfl, ?_⟩
         exact op_storeB S 6 _ _ _ b53 0 (.agg #[.slice As x.spots.length cs, .slice Ae x.edges.length ce]) F rfl rfl (by kernel_rfl) (by kernel_rfl) (by kernel_rfl) (by kernel_rfl) (by kernel_rfl) fun z S => ⟨b53, rfl, (SameB.refl _ _ rfl), S⟩
        trivial
       ·
        rintro b53 a z F S
        have F := F.sub (l := [(3, .pointer (some ⟨b2, 0, none⟩)), (5, .pointer (some ⟨b43, 0, none⟩)), (6, .int .i64 0), (7, .pointer (some ⟨b53, 0, none⟩)), (8, .int .i64 (chkP x))]) ⟨by kernel_rfl, by kernel_rfl, by kernel_rfl, by kernel_rfl, by kernel_rfl, trivial⟩
        have S : Sat w z [rest w (· < w.heap.size), box b1 25 [.slice As x.spots.length cs, .slice Ae x.edges.length ce], box b2 45 [.slice An N.length cn, .slice Aed E.length ced, .slice Aa A.length ca], row 107 2 (.slice A39 x.spots.length c40) x.spots.length (x.spots.flatMap spC), row 62 8 (.slice A41 x.edges.length c42) x.edges.length (x.edges.flatMap edC), box b43 32 [.slice A39 x.spots.length c40, .slice A41 x.edges.length c42], box b53 25 [.slice As x.spots.length cs, .slice Ae x.edges.length ce]] := S
        refine then_n ?_
        refine wp_seq ?_
        refine s_reg ?_
        refine l_pure 1 (fun L => (9, .int .i64 0) :: L) F (by kernel_rfl) fun a F => ?_
        refine l_then ?_
        refine wp_block ?_
        refine wp_loop_m (fun m a z => ∃ (i : Nat) (y : Wb) (f : Int) (B1 : Option Addr) (d1 : Nat) (B2 : Option Addr) (d2 : Nat), m = E.length - i ∧ (i ≤ E.length) ∧ ((f = 0 → goL y ((trips E N A).drop i) = goR x E N A) ∧ (f ≠ 0 → goR x E N A = (noWeb, f))) ∧ y.Ok ∧ (y.spots.length ≤ 1000) ∧ (y.edges.length ≤ 1000) ∧ (Recs 2 spC w B1 d1 y.spots) ∧ Fr a 122 [(3, .pointer (some ⟨b2, 0, none⟩)), (5, .pointer (some ⟨b43, 0, none⟩)), (6, .int .i64 0), (7, .pointer (some ⟨b53, 0, none⟩)), (8, .int .i64 f), (9, .int .i64 (i : Nat))] ∧ Sat w z [rest w (· < w.heap.size), box b1 25 [.slice As x.spots.length cs, .slice Ae x.edges.length ce], box b2 45 [.slice An N.length cn, .slice Aed E.length ced, .slice Aa A.length ca], row 107 2 (.slice A39 x.spots.length c40) x.spots.length (x.spots.flatMap spC), row 62 8 (.slice A41 x.edges.length c42) x.edges.length (x.edges.flatMap edC), box b43 32 [.slice A39 x.spots.length c40, .slice A41 x.edges.length c42], box b53 25 [.slice B1 y.spots.length d1, .slice B2 y.edges.length d2], rowI i w 104 8 edC B2 d2 y.edges]) _ ⟨0, x, chkP x, As, cs, Ae, ce, rfl, Nat.zero_le _, ⟨fun _ => goR_ok hc0, fun h9 => absurd hc0 h9⟩, ok, l1, l2, h.s, F.sub ⟨by kernel_rfl, by kernel_rfl, by kernel_rfl, by kernel_rfl, by kernel_rfl, by kernel_rfl, trivial⟩, (S.pushI 104 h.e)⟩ ?_
        rintro m a z ⟨i, y, f, B1, d1, B2, d2, hm, hf55, hf56, hf57, hf58, hf59, hf60, F, S⟩
        have hgo := hf56
        have oky := hf57
        have hy1 := hf58
        have hy2 := hf59
        have hsp := hf60
        refine wp_seq ?_
        refine s_reg ?_
        refine l_pure 2 (fun L => (77, .pointer (some ⟨b2, 1, none⟩)) :: (76, .int .i64 (i : Nat)) :: L) F (by kernel_rfl) fun a F => ?_
        refine l_do F rfl rfl (op_load _ _ (some ⟨b2, 0, none⟩) 1 (.slice Aed E.length ced) F rfl (by kernel_rfl) (by kernel_rfl) (cBox S 2 rfl (j := 1) rfl) (fun a F => ?_))
        refine l_pure 1 (fun L => (79, .int .i64 (E.length : Nat)) :: L) F (by kernel_rfl) fun a F => ?_
        by_cases ht61 : ((i : Nat) : Int) < ((E.length : Nat) : Int)
        ·
         skip
         have hl9 := hlens.1
         have hl8 := hlens.2
         obtain ⟨eg, heg⟩ : ∃ eg, E[i]? = some eg := ⟨_, List.getElem?_eq_getElem (by omega)⟩
         obtain ⟨nd, hnd⟩ : ∃ nd, N[i]? = some nd := ⟨_, List.getElem?_eq_getElem (by omega)⟩
         obtain ⟨am, ham⟩ : ∃ am, A[i]? = some am := ⟨_, List.getElem?_eq_getElem (by omega)⟩
         have hua := hAu am (List.mem_of_getElem? ham)
         obtain ⟨y2, er2, hs2⟩ : ∃ y2 er2, sentP y eg nd am = (y2, er2) := ⟨_, _, rfl⟩
         obtain ⟨oky2, hy3, hy4⟩ := sent_ok9 oky hua hs2
         refine l_do F rfl rfl (op_pure F (v0 := .bool (decide (((i : Nat) : Int) < ((E.length : Nat) : Int)))) (v := .bool true) (by kernel_rfl) (lssT ht61) fun a F => ?_)
         refine l_pure 2 (fun L => (82, .int .i64 f) :: (81, .bool true) :: L) F (by kernel_rfl) fun a F => ?_
         by_cases ht62 : (f : Int) = (0 : Int)
         ·
          skip
          have hf := ht62
          have hst := goL_step (hgo.1 hf) heg hnd ham hs2
          refine l_do F rfl rfl (op_pure F (v0 := .bool ((f : Int) == (0 : Int))) (v := .bool true) (by kernel_rfl) (eqlT ht62) fun a F => ?_)
          refine l_pure 1 (fun L => (84, .bool true) :: L) F (by kernel_rfl) fun a F => ?_
          refine l_then ?_
          refine c_t F rfl ?_
          refine wp_skip ?_
          refine then_n ?_
          refine wp_seq ?_
          refine wp_block ?_
          have S := S.pushEmp.pushEmp
          refine region_gx (fun D => fun ((A63, c64, A65, c66) : Option Addr × Nat × Option Addr × Nat) => [rest w (· < w.heap.size), box b1 25 [.slice As x.spots.length cs, .slice Ae x.edges.length ce], box b2 45 [.slice An N.length cn, .slice Aed E.length ced, .slice Aa A.length ca], row 107 2 (.slice A39 x.spots.length c40) x.spots.length (x.spots.flatMap spC), row 62 8 (.slice A41 x.edges.length c42) x.edges.length (x.edges.flatMap edC), box b43 32 [.slice A39 x.spots.length c40, .slice A41 x.edges.length c42], bif D 20 then box b53 25 [.slice A63 y2.spots.length c64, .slice A65 y2.edges.length c66] else box b53 25 [.slice B1 y.spots.length d1, .slice B2 y.edges.length d2], rowI i w 104 8 edC B2 d2 y.edges, bif D 16 then row 104 8 (.slice A65 y2.edges.length c66) y2.edges.length (y2.edges.flatMap edC) else emp, bif D 16 then when (Recs 2 spC w A63 c64 y2.spots) emp else emp]) (fun ((A63, c64, A65, c66) : Option Addr × Nat × Option Addr × Nat) => [.agg #[.slice B1 y.spots.length d1, .slice B2 y.edges.length d2], .pointer (some ⟨b2, 1, none⟩), .slice Aed E.length ced, .int .i64 (i : Nat), ptrA Aed (i * 1), .int .i64 eg, .pointer (some ⟨b2, 0, none⟩), .slice An N.length cn, .int .i64 (i : Nat), ptrA An (i * 1), .int .i64 nd, .pointer (some ⟨b2, 2, none⟩), .slice Aa A.length ca, .int .i64 (i : Nat), ptrA Aa (i * 1), .int .u64 am, .tuple #[.agg #[.slice A63 y2.spots.length c64, .slice A65 y2.edges.length c66], .int .i64 er2], .tuple #[.agg #[.slice A63 y2.spots.length c64, .slice A65 y2.edges.length c66], .int .i64 er2], .agg #[.slice A63 y2.spots.length c64, .slice A65 y2.edges.length c66], .int .i64 er2, undef, .int .i64 er2]) [(0, [], [16, 20]), (2, [], [4, 5, 16, 20]), (4, [2], [5, 16, 20]), (5, [2, 4], [16, 20]), (7, [], [9, 10, 16, 20]), (9, [7], [10, 16, 20]), (10, [7, 9], [16, 20]), (12, [], [14, 15, 16, 20]), (14, [12], [15, 16, 20]), (15, [12, 14], [16, 20]), (16, [0, 2, 4, 5, 7, 9, 10, 12, 14, 15], [20]), (20, [0, 2, 4, 5, 7, 9, 10, 12, 14, 15, 16], [])] (none, 0, none, 0) rfl (by kernel_rfl) (by kernel_rfl) F S.drew ?_ ?_ ?_ ?_ ?_
          · rintro ⟨A63, c64, A65, c66⟩; rfl
          · rintro ⟨A63, c64, A65, c66⟩; kernel_rfl
          ·
           intro D D' x h
           obtain ⟨A63, c64, A65, c66⟩ := x
           simp only [h 16 (by decide), h 20 (by decide)]
          ·
           refine ⟨?_, ?_⟩
           ·
            refine ⟨_, rfl, rfl, by kernel_rfl, ?_⟩
            rintro D ⟨A63, c64, A65, c66⟩ a z S F
            refine ⟨by kernel_rfl, ?_⟩
            exact op_loadK _ _ (some ⟨b53, 0, none⟩) 0 [.slice B1 y.spots.length d1, .slice B2 y.edges.length d2] F rfl (by kernel_rfl) (by kernel_rfl) (by kernel_rfl) (by simp) (cBoxK S 6 rfl 0 (by kernel_rfl)) (⟨(A63, c64, A65, c66), rfl, (SameB.refl _ _ rfl), S⟩)
           refine ⟨?_, ?_⟩
           ·
            refine ⟨_, rfl, rfl, by kernel_rfl, ?_⟩
            rintro D ⟨A63, c64, A65, c66⟩ a z S F
            refine ⟨by kernel_rfl, ?_⟩
            exact op_load _ _ (some ⟨b2, 0, none⟩) 1 (.slice Aed E.length ced) F rfl (by kernel_rfl) (by kernel_rfl) (cBox S 2 rfl (j := 1) rfl) (⟨(A63, c64, A65, c66), rfl, (SameB.refl _ _ rfl), S⟩)
           refine ⟨?_, ?_⟩
           ·
            refine ⟨_, rfl, rfl, by kernel_rfl, ?_⟩
            rintro D ⟨A63, c64, A65, c66⟩ a z S F
            refine ⟨by kernel_rfl, ?_⟩
            exact op_index _ 3 _ _ Aed E.length ced i 1 .i64 F rfl (by kernel_rfl) (by kernel_rfl) (by kernel_rfl) (by kernel_rfl) (get_lt heg) (recs_some hE (m := i) (get_lt heg)) (⟨(A63, c64, A65, c66), rfl, (SameB.refl _ _ rfl), S⟩)
           refine ⟨?_, ?_⟩
           ·
            refine ⟨_, rfl, rfl, by kernel_rfl, ?_⟩
            rintro D ⟨A63, c64, A65, c66⟩ a z S F
            refine ⟨by kernel_rfl, ?_⟩
            exact op_load _ _ Aed (i * 1) (.int .i64 eg) F rfl (by kernel_rfl) (by kernel_rfl) (cOld S 0 iC_len_i64 hE rfl 0 heg rfl) (⟨(A63, c64, A65, c66), rfl, (SameB.refl _ _ rfl), S⟩)
           refine ⟨?_, ?_⟩
           ·
            refine ⟨_, rfl, rfl, by kernel_rfl, ?_⟩
            rintro D ⟨A63, c64, A65, c66⟩ a z S F
            refine ⟨by kernel_rfl, ?_⟩
            exact op_load _ _ (some ⟨b2, 0, none⟩) 0 (.slice An N.length cn) F rfl (by kernel_rfl) (by kernel_rfl) (cBox S 2 rfl (j := 0) rfl) (⟨(A63, c64, A65, c66), rfl, (SameB.refl _ _ rfl), S⟩)
           refine ⟨?_, ?_⟩
           ·
            refine ⟨_, rfl, rfl, by kernel_rfl, ?_⟩
            rintro D ⟨A63, c64, A65, c66⟩ a z S F
            refine ⟨by kernel_rfl, ?_⟩
            exact op_index _ 3 _ _ An N.length cn i 1 .i64 F rfl (by kernel_rfl) (by kernel_rfl) (by kernel_rfl) (by kernel_rfl) (get_lt hnd) (recs_some hN (m := i) (get_lt hnd)) (⟨(A63, c64, A65, c66), rfl, (SameB.refl _ _ rfl), S⟩)
           refine ⟨?_, ?_⟩
           ·
            refine ⟨_, rfl, rfl, by kernel_rfl, ?_⟩
            rintro D ⟨A63, c64, A65, c66⟩ a z S F
            refine ⟨by kernel_rfl, ?_⟩
            exact op_load _ _ An (i * 1) (.int .i64 nd) F rfl (by kernel_rfl) (by kernel_rfl) (cOld S 0 iC_len_i64 hN rfl 0 hnd rfl) (⟨(A63, c64, A65, c66), rfl, (SameB.refl _ _ rfl), S⟩)
           refine ⟨?_, ?_⟩
           ·
            refine ⟨_, rfl, rfl, by kernel_rfl, ?_⟩
            rintro D ⟨A63, c64, A65, c66⟩ a z S F
            refine ⟨by kernel_rfl, ?_⟩
            exact op_load _ _ (some ⟨b2, 0, none⟩) 2 (.slice Aa A.length ca) F rfl (by kernel_rfl) (by kernel_rfl) (cBox S 2 rfl (j := 2) rfl) (⟨(A63, c64, A65, c66), rfl, (SameB.refl _ _ rfl), S⟩)
           refine ⟨?_, ?_⟩
           ·
            refine ⟨_, rfl, rfl, by kernel_rfl, ?_⟩
            rintro D ⟨A63, c64, A65, c66⟩ a z S F
            refine ⟨by kernel_rfl, ?_⟩
            exact op_index _ 26 _ _ Aa A.length ca i 1 .i64 F rfl (by kernel_rfl) (by kernel_rfl) (by kernel_rfl) (by kernel_rfl) (get_lt ham) (recs_some hA (m := i) (get_lt ham)) (⟨(A63, c64, A65, c66), rfl, (SameB.refl _ _ rfl), S⟩)
           refine ⟨?_, ?_⟩
           ·
            refine ⟨_, rfl, rfl, by kernel_rfl, ?_⟩
            rintro D ⟨A63, c64, A65, c66⟩ a z S F
            refine ⟨by kernel_rfl, ?_⟩
            exact op_load _ _ Aa (i * 1) (.int .u64 am) F rfl (by kernel_rfl) (by kernel_rfl) (cOld S 0 iC_len_u64 hA rfl 0 ham rfl) (⟨(A63, c64, A65, c66), rfl, (SameB.refl _ _ rfl), S⟩)
           refine ⟨?_, ?_⟩
           ·
            refine ⟨_, rfl, rfl, by kernel_rfl, ?_⟩
            rintro D ⟨A63, c64, A65, c66⟩ a z S F
            refine ⟨by kernel_rfl, ?_⟩
            refine op_fn F (by kernel_rfl) (rsent_at2 _ B1 d1 B2 d2 y ⟨(hsp.mono (src_rest S (i := 0) rfl hsp.src (src_lt hsp.src))), (rowI_recs S 0 7 rfl rfl hy2)⟩ oky eg nd am hua hy1 hy2 hs2 hsp) ?_
            rintro e z ⟨A71, c72, A73, c74, rfl, hsp2, g⟩
            have S := S.fillThing 8 rfl g
            have S := S.shut_when (i := 9) (p := Recs 2 spC w A71 c72 y2.spots) hsp2 rfl
            exact ⟨_, rfl, (A71, c72, A73, c74), rfl, ⟨rfl, rfl, rfl, rfl, rfl, rfl, rfl, rfl, rfl, rfl, rfl, rfl, rfl, rfl, rfl, rfl, trivial, trivial, trivial, trivial, trivial, trivial, trivial⟩, S⟩
           refine ⟨?_, ?_⟩
           ·
            refine ⟨_, rfl, rfl, by kernel_rfl, ?_⟩
            rintro D ⟨A63, c64, A65, c66⟩ a z S F
            refine ⟨by kernel_rfl, ?_⟩
            exact op_storeB S 6 _ _ _ b53 0 (.agg #[.slice A63 y2.spots.length c64, .slice A65 y2.edges.length c66]) F rfl rfl (by kernel_rfl) (by kernel_rfl) (by kernel_rfl) (by kernel_rfl) (by kernel_rfl) fun z S => ⟨(A63, c64, A65, c66), rfl, (SameB.refl _ _ rfl), S⟩
           trivial
          ·
           rintro ⟨A63, c64, A65, c66⟩ a z F S
           have F := F.sub (l := [(3, .pointer (some ⟨b2, 0, none⟩)), (5, .pointer (some ⟨b43, 0, none⟩)), (6, .int .i64 0), (7, .pointer (some ⟨b53, 0, none⟩)), (8, .int .i64 er2), (9, .int .i64 (i : Nat))]) ⟨by kernel_rfl, by kernel_rfl, by kernel_rfl, by kernel_rfl, by kernel_rfl, by kernel_rfl, trivial⟩
           have S : Sat w z [rest w (· < w.heap.size), box b1 25 [.slice As x.spots.length cs, .slice Ae x.edges.length ce], box b2 45 [.slice An N.length cn, .slice Aed E.length ced, .slice Aa A.length ca], row 107 2 (.slice A39 x.spots.length c40) x.spots.length (x.spots.flatMap spC), row 62 8 (.slice A41 x.edges.length c42) x.edges.length (x.edges.flatMap edC), box b43 32 [.slice A39 x.spots.length c40, .slice A41 x.edges.length c42], box b53 25 [.slice A63 y2.spots.length c64, .slice A65 y2.edges.length c66], rowI i w 104 8 edC B2 d2 y.edges, row 104 8 (.slice A65 y2.edges.length c66) y2.edges.length (y2.edges.flatMap edC), when (Recs 2 spC w A63 c64 y2.spots) emp] := S
           obtain ⟨hsp2, S⟩ := S.open_when (i := 9) rfl
           have S : Sat w z [rest w (· < w.heap.size), box b1 25 [.slice As x.spots.length cs, .slice Ae x.edges.length ce], box b2 45 [.slice An N.length cn, .slice Aed E.length ced, .slice Aa A.length ca], row 107 2 (.slice A39 x.spots.length c40) x.spots.length (x.spots.flatMap spC), row 62 8 (.slice A41 x.edges.length c42) x.edges.length (x.edges.flatMap edC), box b43 32 [.slice A39 x.spots.length c40, .slice A41 x.edges.length c42], box b53 25 [.slice A63 y2.spots.length c64, .slice A65 y2.edges.length c66], rowI i w 104 8 edC B2 d2 y.edges, row 104 8 (.slice A65 y2.edges.length c66) y2.edges.length (y2.edges.flatMap edC), emp] := S
           refine inb_n ?_
           refine then_n ?_
           refine wp_region_list ?_
           refine l_pure 1 (fun L => (85, .int .i64 (i : Nat)) :: L) F (by kernel_rfl) fun a F => ?_
           refine l_do F rfl rfl (op_pure F (v0 := .int .i64 (IntKind.wrap .i64 ((i : Nat) + 1))) (v := .int .i64 (i + 1 : Nat)) (by kernel_rfl) (wrn_i64 (by omega) (by omega) (by omega)) fun a F => ?_)
           refine l_pure 1 (fun L => (9, .int .i64 (i + 1 : Nat)) :: L) F (by kernel_rfl) fun a F => ?_
           refine l_then ?_
           have S := S.toI i 8 rfl
           have S : Sat w z [rest w (· < w.heap.size), box b1 25 [.slice As x.spots.length cs, .slice Ae x.edges.length ce], box b2 45 [.slice An N.length cn, .slice Aed E.length ced, .slice Aa A.length ca], row 107 2 (.slice A39 x.spots.length c40) x.spots.length (x.spots.flatMap spC), row 62 8 (.slice A41 x.edges.length c42) x.edges.length (x.edges.flatMap edC), box b43 32 [.slice A39 x.spots.length c40, .slice A41 x.edges.length c42], box b53 25 [.slice A63 y2.spots.length c64, .slice A65 y2.edges.length c66], rowI i w 104 8 edC B2 d2 y.edges, rowI (i + 1) w 104 8 edC A65 c66 y2.edges, emp] := S
           exact ⟨_, (by omega), i + 1, y2, er2, A63, c64, A65, c66, rfl, (by omega), hst, oky2, (by omega), (by omega), hsp2, F.sub ⟨by kernel_rfl, by kernel_rfl, by kernel_rfl, by kernel_rfl, by kernel_rfl, by kernel_rfl, trivial⟩, (S.pick [0, 1, 2, 3, 4, 5, 6, 8] (by decide))⟩
         · exact absurd ((Prod.mk.inj ((goX_in hg hlens).symm.trans (hgo.2 ht62))).2.symm.trans hq2) ht62
        ·
         skip
         refine l_do F rfl rfl (op_pure F (v0 := .bool (decide (((i : Nat) : Int) < ((E.length : Nat) : Int)))) (v := .bool false) (by kernel_rfl) (lssF ht61) fun a F => ?_)
         refine l_pure 4 (fun L => (84, .bool false) :: (83, undef) :: (82, undef) :: (81, .bool false) :: L) F (by kernel_rfl) fun a F => ?_
         refine l_then ?_
         refine c_f F rfl ?_
         refine wp_exit ?_
         refine then_x ?_
         refine then_x ?_
         refine inb_x ?_
         refine then_n ?_
         refine wp_seq ?_
         refine s_reg ?_
         refine l_pure 1 (fun L => (107, .int .i64 f) :: L) F (by kernel_rfl) fun a F => ?_
         by_cases ht75 : (f : Int) = (0 : Int)
         ·
          skip
          have hf := ht75
          obtain ⟨hyr, her⟩ := goL_end (hgo.1 hf) (by omega) (goX_in hg hlens)
          refine l_do F rfl rfl (op_pure F (v0 := .bool ((f : Int) != (0 : Int))) (v := .bool false) (by kernel_rfl) (neqF ht75) fun a F => ?_)
          refine l_then ?_
          refine c_f F rfl ?_
          refine wp_skip ?_
          refine then_n ?_
          refine wp_seq ?_
          have S := S.pushEmp.pushEmp
          refine region_gx (fun D => fun ((A76, c77, A78, c79) : Option Addr × Nat × Option Addr × Nat) => [rest w (· < w.heap.size), box b1 25 [.slice As x.spots.length cs, .slice Ae x.edges.length ce], box b2 45 [.slice An N.length cn, .slice Aed E.length ced, .slice Aa A.length ca], row 107 2 (.slice A39 x.spots.length c40) x.spots.length (x.spots.flatMap spC), row 62 8 (.slice A41 x.edges.length c42) x.edges.length (x.edges.flatMap edC), box b43 32 [.slice A39 x.spots.length c40, .slice A41 x.edges.length c42], box b53 25 [.slice B1 y.spots.length d1, .slice B2 y.edges.length d2], rowI i w 104 8 edC B2 d2 y.edges, bif D 8 then row 106 2 (.slice A76 x.spots.length c77) x.spots.length (x.spots.flatMap spC) else emp, bif D 8 then row 104 8 (.slice A78 x.edges.length c79) x.edges.length (x.edges.flatMap edC) else emp]) (fun ((A76, c77, A78, c79) : Option Addr × Nat × Option Addr × Nat) => [.bool true, .bool true, .int .i64 0, .int .i64 f, .bool true, .bool true, .bool true, .agg #[.slice A39 x.spots.length c40, .slice A41 x.edges.length c42], .agg #[.slice A76 x.spots.length c77, .slice A78 x.edges.length c79], .agg #[.slice B1 y.spots.length d1, .slice B2 y.edges.length d2], .bool true, .bool true, .bool true]) [(0, [], [4, 7, 8, 9, 10]), (4, [0], [7, 8, 9, 10]), (7, [0, 4], [8, 10]), (8, [0, 4, 7], [10]), (9, [0, 4], [10]), (10, [0, 4, 7, 8, 9], [])] (none, 0, none, 0) rfl (by kernel_rfl) (by kernel_rfl) F S.drew ?_ ?_ ?_ ?_ ?_
          · rintro ⟨A76, c77, A78, c79⟩; rfl
          · rintro ⟨A76, c77, A78, c79⟩; kernel_rfl
          ·
           intro D D' x h
           obtain ⟨A76, c77, A78, c79⟩ := x
           simp only [h 8 (by decide)]
          ·
           refine ⟨?_, ?_⟩
           ·
            refine ⟨_, rfl, rfl, by kernel_rfl, ?_⟩
            rintro D ⟨A76, c77, A78, c79⟩ a z S F
            refine ⟨by kernel_rfl, ?_⟩
            refine op_fn F (by kernel_rfl) (awake08_any _) ?_
            rintro e z ⟨rfl, hb⟩
            have S := S.grow hb
            exact ⟨_, rfl, (A76, c77, A78, c79), rfl, (SameB.refl _ _ rfl), S⟩
           refine ⟨?_, ?_⟩
           ·
            refine ⟨_, rfl, rfl, by kernel_rfl, ?_⟩
            rintro D ⟨A76, c77, A78, c79⟩ a z S F
            refine ⟨by kernel_rfl, ?_⟩
            exact op_pure F (v0 := .bool ((0 : Int) == (f : Int))) (v := .bool true) (by kernel_rfl) (eqlT (Eq.symm ht75)) ⟨(A76, c77, A78, c79), rfl, (SameB.refl _ _ rfl), S⟩
           refine ⟨?_, ?_⟩
           ·
            refine ⟨_, rfl, rfl, by kernel_rfl, ?_⟩
            rintro D ⟨A76, c77, A78, c79⟩ a z S F
            refine ⟨by kernel_rfl, ?_⟩
            exact op_loadK _ _ (some ⟨b43, 0, none⟩) 0 [.slice A39 x.spots.length c40, .slice A41 x.edges.length c42] F rfl (by kernel_rfl) (by kernel_rfl) (by kernel_rfl) (by simp) (cBoxK S 5 rfl 0 (by kernel_rfl)) (⟨(A76, c77, A78, c79), rfl, (SameB.refl _ _ rfl), S⟩)
           refine ⟨?_, ?_⟩
           ·
            refine ⟨_, rfl, rfl, by kernel_rfl, ?_⟩
            rintro D ⟨A76, c77, A78, c79⟩ a z S F
            refine ⟨by kernel_rfl, ?_⟩
            refine op_fn F (by kernel_rfl) (from_any _ A39 c40 A41 c42 x (WebAt.ofNew (x := x) (w := w) S (i := 3) (j := 4) rfl rfl ⟨l1, l2⟩) ok ⟨l1, l2⟩) ?_
            rintro e z ⟨y80, y81, y82, y83, rfl, g⟩
            have S := S.fillThing2 8 9 rfl rfl (by decide) g
            exact ⟨_, rfl, (y80, y81, y82, y83), rfl, ⟨rfl, rfl, rfl, rfl, rfl, rfl, rfl, rfl, trivial, rfl, trivial, trivial, trivial, trivial⟩, S⟩
           refine ⟨?_, ?_⟩
           ·
            refine ⟨_, rfl, rfl, by kernel_rfl, ?_⟩
            rintro D ⟨A76, c77, A78, c79⟩ a z S F
            refine ⟨by kernel_rfl, ?_⟩
            exact op_loadK _ _ (some ⟨b53, 0, none⟩) 0 [.slice B1 y.spots.length d1, .slice B2 y.edges.length d2] F rfl (by kernel_rfl) (by kernel_rfl) (by kernel_rfl) (by simp) (cBoxK S 6 rfl 0 (by kernel_rfl)) (⟨(A76, c77, A78, c79), rfl, (SameB.refl _ _ rfl), S⟩)
           refine ⟨?_, ?_⟩
           ·
            refine ⟨_, rfl, rfl, by kernel_rfl, ?_⟩
            rintro D ⟨A76, c77, A78, c79⟩ a z S F
            refine ⟨by kernel_rfl, ?_⟩
            refine op_fn F (by kernel_rfl) (same_eq (hq1.symm.trans hyr.symm) _ A76 c77 A78 c79 (WebAt.ofNew (x := x) (w := w) S (i := 8) (j := 9) rfl rfl ⟨l1, l2⟩) ok B1 d1 B2 d2 ⟨(hsp.mono (src_rest S (i := 0) rfl hsp.src (src_lt hsp.src))), (rowI_recs S 0 7 rfl rfl hy2)⟩) ?_
            rintro e z ⟨rfl, hb⟩
            have S := S.grow hb
            exact ⟨_, rfl, (A76, c77, A78, c79), rfl, (SameB.refl _ _ rfl), S⟩
           trivial
          ·
           rintro ⟨A76, c77, A78, c79⟩ a z F S
           have F := F.sub (l := [(4, .bool true)]) ⟨by kernel_rfl, trivial⟩
           have S : Sat w z [rest w (· < w.heap.size), box b1 25 [.slice As x.spots.length cs, .slice Ae x.edges.length ce], box b2 45 [.slice An N.length cn, .slice Aed E.length ced, .slice Aa A.length ca], row 107 2 (.slice A39 x.spots.length c40) x.spots.length (x.spots.flatMap spC), row 62 8 (.slice A41 x.edges.length c42) x.edges.length (x.edges.flatMap edC), box b43 32 [.slice A39 x.spots.length c40, .slice A41 x.edges.length c42], box b53 25 [.slice B1 y.spots.length d1, .slice B2 y.edges.length d2], rowI i w 104 8 edC B2 d2 y.edges, row 106 2 (.slice A76 x.spots.length c77) x.spots.length (x.spots.flatMap spC), row 104 8 (.slice A78 x.edges.length c79) x.edges.length (x.edges.flatMap edC)] := S
           refine then_n ?_
           refine wp_ret ?_
           exact fin F [.tmp 4] [.bool true] rfl ⟨by kernel_rfl, trivial⟩ (.bool true) rfl ⟨rfl, S.below (i := 0) rfl⟩
         · exact absurd ((Prod.mk.inj ((goX_in hg hlens).symm.trans (hgo.2 ht75))).2.symm.trans hq2) ht75
     ·
      skip
      have S := S.pushEmp.pushEmp.pushEmp.pushEmp.pushEmp
      refine region_gx (fun D => fun ((A88, c89, A90, c91, A92, c93, A94, c95, b96) : Option Addr × Nat × Option Addr × Nat × Option Addr × Nat × Option Addr × Nat × Nat) => [rest w (· < w.heap.size), box b1 25 [.slice As x.spots.length cs, .slice Ae x.edges.length ce], box b2 45 [.slice An N.length cn, .slice Aed E.length ced, .slice Aa A.length ca], bif D 8 then row 107 2 (.slice A88 x.spots.length c89) x.spots.length (x.spots.flatMap spC) else emp, bif D 8 then row 62 8 (.slice A90 x.edges.length c91) x.edges.length (x.edges.flatMap edC) else emp, bif D 9 then row 107 2 (.slice A92 yr.spots.length c93) yr.spots.length (yr.spots.flatMap spC) else emp, bif D 9 then row 62 8 (.slice A94 yr.edges.length c95) yr.edges.length (yr.edges.flatMap edC) else emp, bif D 14 then box b96 32 [.slice A92 yr.spots.length c93, .slice A94 yr.edges.length c95] else (bif D 13 then box b96 32 [.slice none 0 0, .slice none 0 0] else emp)]) (fun ((A88, c89, A90, c91, A92, c93, A94, c95, b96) : Option Addr × Nat × Option Addr × Nat × Option Addr × Nat × Option Addr × Nat × Nat) => [.pointer (some ⟨b2, 0, none⟩), .slice An N.length cn, .pointer (some ⟨b2, 1, none⟩), .slice Aed E.length ced, .pointer (some ⟨b2, 2, none⟩), .slice Aa A.length ca, .agg #[.slice An N.length cn, .slice Aed E.length ced, .slice Aa A.length ca], .agg #[.slice As x.spots.length cs, .slice Ae x.edges.length ce], .agg #[.slice A88 x.spots.length c89, .slice A90 x.edges.length c91], .tuple #[.agg #[.slice A92 yr.spots.length c93, .slice A94 yr.edges.length c95], .int .i64 er], .tuple #[.agg #[.slice A92 yr.spots.length c93, .slice A94 yr.edges.length c95], .int .i64 er], .agg #[.slice A92 yr.spots.length c93, .slice A94 yr.edges.length c95], .int .i64 er, .pointer (some ⟨b96, 0, none⟩), undef, .int .i64 er]) [(1, [], [9, 14]), (3, [], [9, 14]), (5, [], [9, 14]), (7, [], [8, 9, 14]), (8, [7], [9, 14]), (9, [1, 3, 5, 7, 8], [14]), (13, [], [14]), (14, [1, 3, 5, 7, 8, 9, 13], [])] (none, 0, none, 0, none, 0, none, 0, 0) rfl (by kernel_rfl) (by kernel_rfl) F S.drew ?_ ?_ ?_ ?_ ?_
      · rintro ⟨A88, c89, A90, c91, A92, c93, A94, c95, b96⟩; rfl
      · rintro ⟨A88, c89, A90, c91, A92, c93, A94, c95, b96⟩; kernel_rfl
      ·
       intro D D' x h
       obtain ⟨A88, c89, A90, c91, A92, c93, A94, c95, b96⟩ := x
       simp only [h 8 (by decide), h 9 (by decide), h 13 (by decide), h 14 (by decide)]
      ·
       refine ⟨?_, ?_⟩
       ·
        refine ⟨_, rfl, rfl, by kernel_rfl, ?_⟩
        rintro D ⟨A88, c89, A90, c91, A92, c93, A94, c95, b96⟩ a z S F
        refine ⟨by kernel_rfl, ?_⟩
        exact op_load _ _ (some ⟨b2, 0, none⟩) 0 (.slice An N.length cn) F rfl (by kernel_rfl) (by kernel_rfl) (cBox S 2 rfl (j := 0) rfl) (⟨(A88, c89, A90, c91, A92, c93, A94, c95, b96), rfl, (SameB.refl _ _ rfl), S⟩)
       refine ⟨?_, ?_⟩
       ·
        refine ⟨_, rfl, rfl, by kernel_rfl, ?_⟩
        rintro D ⟨A88, c89, A90, c91, A92, c93, A94, c95, b96⟩ a z S F
        refine ⟨by kernel_rfl, ?_⟩
        exact op_load _ _ (some ⟨b2, 0, none⟩) 1 (.slice Aed E.length ced) F rfl (by kernel_rfl) (by kernel_rfl) (cBox S 2 rfl (j := 1) rfl) (⟨(A88, c89, A90, c91, A92, c93, A94, c95, b96), rfl, (SameB.refl _ _ rfl), S⟩)
       refine ⟨?_, ?_⟩
       ·
        refine ⟨_, rfl, rfl, by kernel_rfl, ?_⟩
        rintro D ⟨A88, c89, A90, c91, A92, c93, A94, c95, b96⟩ a z S F
        refine ⟨by kernel_rfl, ?_⟩
        exact op_load _ _ (some ⟨b2, 0, none⟩) 2 (.slice Aa A.length ca) F rfl (by kernel_rfl) (by kernel_rfl) (cBox S 2 rfl (j := 2) rfl) (⟨(A88, c89, A90, c91, A92, c93, A94, c95, b96), rfl, (SameB.refl _ _ rfl), S⟩)
       refine ⟨?_, ?_⟩
       ·
        refine ⟨_, rfl, rfl, by kernel_rfl, ?_⟩
        rintro D ⟨A88, c89, A90, c91, A92, c93, A94, c95, b96⟩ a z S F
        refine ⟨by kernel_rfl, ?_⟩
        exact op_loadK _ _ (some ⟨b1, 0, none⟩) 0 [.slice As x.spots.length cs, .slice Ae x.edges.length ce] F rfl (by kernel_rfl) (by kernel_rfl) (by kernel_rfl) (by simp) (cBoxK S 1 rfl 0 (by kernel_rfl)) (⟨(A88, c89, A90, c91, A92, c93, A94, c95, b96), rfl, (SameB.refl _ _ rfl), S⟩)
       refine ⟨?_, ?_⟩
       ·
        refine ⟨_, rfl, rfl, by kernel_rfl, ?_⟩
        rintro D ⟨A88, c89, A90, c91, A92, c93, A94, c95, b96⟩ a z S F
        refine ⟨by kernel_rfl, ?_⟩
        refine op_fn F (by kernel_rfl) (to_any _ As cs Ae ce x (h.move S rfl) ok ⟨l1, l2⟩) ?_
        rintro e z ⟨y97, y98, y99, y100, rfl, g⟩
        have S := S.fillThing2 3 4 rfl rfl (by decide) g
        exact ⟨_, rfl, (y97, y98, y99, y100, A92, c93, A94, c95, b96), rfl, ⟨rfl, rfl, rfl, rfl, rfl, rfl, rfl, rfl, trivial, trivial, trivial, trivial, trivial, rfl, trivial, trivial, trivial⟩, S⟩
       refine ⟨?_, ?_⟩
       ·
        refine ⟨_, rfl, rfl, by kernel_rfl, ?_⟩
        rintro D ⟨A88, c89, A90, c91, A92, c93, A94, c95, b96⟩ a z S F
        refine ⟨by kernel_rfl, ?_⟩
        refine op_fn F (by kernel_rfl) (goes_new _ A88 c89 A90 c91 x (WebAt.ofNew (x := x) (w := w) S (i := 3) (j := 4) rfl rfl ⟨l1, l2⟩) ok An cn N (hN.mono (src_rest S (i := 0) rfl hN.src (src_lt hN.src))) Aed ced E (hE.mono (src_rest S (i := 0) rfl hE.src (src_lt hE.src))) Aa ca A (hA.mono (src_rest S (i := 0) rfl hA.src (src_lt hA.src))) hAu l1 l2 hg (fun h9 => hne h9.2)) ?_
        rintro e z ⟨y105, y106, y107, y108, rfl, g⟩
        have S := S.fillThing2 5 6 rfl rfl (by decide) g
        exact ⟨_, rfl, (A88, c89, A90, c91, y105, y106, y107, y108, b96), rfl, ⟨rfl, rfl, rfl, rfl, rfl, rfl, rfl, rfl, rfl, trivial, trivial, trivial, trivial, rfl, trivial, trivial, trivial⟩, S⟩
       refine ⟨?_, ?_⟩
       ·
        refine ⟨_, rfl, rfl, by kernel_rfl, ?_⟩
        rintro D ⟨A88, c89, A90, c91, A92, c93, A94, c95, b96⟩ a z S F
        refine ⟨by kernel_rfl, ?_⟩
        exact op_allocF S 7 rfl _ (.agg #[.slice none 0 0, .slice none 0 0]) rfl (by kernel_rfl) fun y113 z S => ⟨(A88, c89, A90, c91, A92, c93, A94, c95, y113), rfl, ⟨rfl, rfl, rfl, rfl, rfl, rfl, rfl, rfl, rfl, rfl, rfl, rfl, rfl, trivial, trivial, trivial, trivial⟩, S⟩
       refine ⟨?_, ?_⟩
       ·
        refine ⟨_, rfl, rfl, by kernel_rfl, ?_⟩
        rintro D ⟨A88, c89, A90, c91, A92, c93, A94, c95, b96⟩ a z S F
        refine ⟨by kernel_rfl, ?_⟩
        exact op_storeB S 7 _ _ _ b96 0 (.agg #[.slice A92 yr.spots.length c93, .slice A94 yr.edges.length c95]) F rfl rfl (by kernel_rfl) (by kernel_rfl) (by kernel_rfl) (by kernel_rfl) (by kernel_rfl) fun z S => ⟨(A88, c89, A90, c91, A92, c93, A94, c95, b96), rfl, (SameB.refl _ _ rfl), S⟩
       trivial
      ·
       rintro ⟨A88, c89, A90, c91, A92, c93, A94, c95, b96⟩ a z F S
       have F := F.sub (l := [(2, .pointer (some ⟨b1, 0, none⟩)), (3, .pointer (some ⟨b2, 0, none⟩)), (5, .pointer (some ⟨b96, 0, none⟩)), (6, .int .i64 er)]) ⟨by kernel_rfl, by kernel_rfl, by kernel_rfl, by kernel_rfl, trivial⟩
       have S : Sat w z [rest w (· < w.heap.size), box b1 25 [.slice As x.spots.length cs, .slice Ae x.edges.length ce], box b2 45 [.slice An N.length cn, .slice Aed E.length ced, .slice Aa A.length ca], row 107 2 (.slice A88 x.spots.length c89) x.spots.length (x.spots.flatMap spC), row 62 8 (.slice A90 x.edges.length c91) x.edges.length (x.edges.flatMap edC), row 107 2 (.slice A92 yr.spots.length c93) yr.spots.length (yr.spots.flatMap spC), row 62 8 (.slice A94 yr.edges.length c95) yr.edges.length (yr.edges.flatMap edC), box b96 32 [.slice A92 yr.spots.length c93, .slice A94 yr.edges.length c95]] := S
       refine then_n ?_
       refine wp_seq ?_
       refine s_reg ?_
       refine l_pure 1 (fun L => (45, .pointer (some ⟨b2, 1, none⟩)) :: L) F (by kernel_rfl) fun a F => ?_
       refine l_do F rfl rfl (op_load _ _ (some ⟨b2, 0, none⟩) 1 (.slice Aed E.length ced) F rfl (by kernel_rfl) (by kernel_rfl) (cBox S 2 rfl (j := 1) rfl) (fun a F => ?_))
       refine l_pure 2 (fun L => (48, .pointer (some ⟨b2, 2, none⟩)) :: (47, .int .i64 (E.length : Nat)) :: L) F (by kernel_rfl) fun a F => ?_
       refine l_do F rfl rfl (op_load _ _ (some ⟨b2, 0, none⟩) 2 (.slice Aa A.length ca) F rfl (by kernel_rfl) (by kernel_rfl) (cBox S 2 rfl (j := 2) rfl) (fun a F => ?_))
       refine l_pure 1 (fun L => (50, .int .i64 (A.length : Nat)) :: L) F (by kernel_rfl) fun a F => ?_
       refine l_do F rfl rfl (op_pure F (v0 := .bool (((E.length : Nat) : Int) != ((A.length : Nat) : Int))) (v := .bool false) (by kernel_rfl) (neqF (by have := hlens.1; omega)) fun a F => ?_)
       refine l_pure 2 (fun L => (53, .pointer (some ⟨b2, 0, none⟩)) :: (52, .bool false) :: L) F (by kernel_rfl) fun a F => ?_
       refine l_do F rfl rfl (op_load _ _ (some ⟨b2, 0, none⟩) 0 (.slice An N.length cn) F rfl (by kernel_rfl) (by kernel_rfl) (cBox S 2 rfl (j := 0) rfl) (fun a F => ?_))
       refine l_pure 2 (fun L => (56, .pointer (some ⟨b2, 1, none⟩)) :: (55, .int .i64 (N.length : Nat)) :: L) F (by kernel_rfl) fun a F => ?_
       refine l_do F rfl rfl (op_load _ _ (some ⟨b2, 0, none⟩) 1 (.slice Aed E.length ced) F rfl (by kernel_rfl) (by kernel_rfl) (cBox S 2 rfl (j := 1) rfl) (fun a F => ?_))
       refine l_pure 1 (fun L => (58, .int .i64 (E.length : Nat)) :: L) F (by kernel_rfl) fun a F => ?_
       refine l_do F rfl rfl (op_pure F (v0 := .int .i64 (IntKind.wrap .i64 ((E.length : Nat) + 1))) (v := .int .i64 (E.length + 1 : Nat)) (by kernel_rfl) (wrn_i64 (by omega) (by omega) (by omega)) fun a F => ?_)
       refine l_do F rfl rfl (op_pure F (v0 := .bool (((N.length : Nat) : Int) != ((E.length + 1 : Nat) : Int))) (v := .bool false) (by kernel_rfl) (neqF (by have := hlens.2; omega)) fun a F => ?_)
       refine l_pure 1 (fun L => (61, .bool false) :: L) F (by kernel_rfl) fun a F => ?_
       refine l_then ?_
       refine c_f F rfl ?_
       refine wp_skip ?_
       refine then_n ?_
       refine wp_seq ?_
       have S := S.pushEmp
       refine region_gx (fun D => fun (b114 : Nat) => [rest w (· < w.heap.size), box b1 25 [.slice As x.spots.length cs, .slice Ae x.edges.length ce], box b2 45 [.slice An N.length cn, .slice Aed E.length ced, .slice Aa A.length ca], row 107 2 (.slice A88 x.spots.length c89) x.spots.length (x.spots.flatMap spC), row 62 8 (.slice A90 x.edges.length c91) x.edges.length (x.edges.flatMap edC), row 107 2 (.slice A92 yr.spots.length c93) yr.spots.length (yr.spots.flatMap spC), row 62 8 (.slice A94 yr.edges.length c95) yr.edges.length (yr.edges.flatMap edC), box b96 32 [.slice A92 yr.spots.length c93, .slice A94 yr.edges.length c95], bif D 4 then box b114 25 [.slice As x.spots.length cs, .slice Ae x.edges.length ce] else (bif D 3 then box b114 25 [.slice none 0 0, .slice none 0 0] else emp)]) (fun (b114 : Nat) => [.agg #[.slice As x.spots.length cs, .slice Ae x.edges.length ce], .agg #[.slice As x.spots.length cs, .slice Ae x.edges.length ce], .int .i64 (chkP x), .pointer (some ⟨b114, 0, none⟩), undef, .int .i64 (chkP x)]) [(0, [], [4]), (1, [], [2, 4]), (2, [1], [4]), (3, [], [4]), (4, [0, 1, 2, 3], [])] 0 rfl (by kernel_rfl) (by kernel_rfl) F S.drew ?_ ?_ ?_ ?_ ?_
       · rintro b114; rfl
       · rintro b114; kernel_rfl
       ·
        intro D D' x h
        obtain b114 := x
        simp only [h 3 (by decide), h 4 (by decide)]
       ·
        refine ⟨?_, ?_⟩
        ·
         refine ⟨_, rfl, rfl, by kernel_rfl, ?_⟩
         rintro D b114 a z S F
         refine ⟨by kernel_rfl, ?_⟩
         exact op_loadK _ _ (some ⟨b1, 0, none⟩) 0 [.slice As x.spots.length cs, .slice Ae x.edges.length ce] F rfl (by kernel_rfl) (by kernel_rfl) (by kernel_rfl) (by simp) (cBoxK S 1 rfl 0 (by kernel_rfl)) (⟨b114, rfl, (SameB.refl _ _ rfl), S⟩)
        refine ⟨?_, ?_⟩
        ·
         refine ⟨_, rfl, rfl, by kernel_rfl, ?_⟩
         rintro D b114 a z S F
         refine ⟨by kernel_rfl, ?_⟩
         exact op_loadK _ _ (some ⟨b1, 0, none⟩) 0 [.slice As x.spots.length cs, .slice Ae x.edges.length ce] F rfl (by kernel_rfl) (by kernel_rfl) (by kernel_rfl) (by simp) (cBoxK S 1 rfl 0 (by kernel_rfl)) (⟨b114, rfl, (SameB.refl _ _ rfl), S⟩)
        refine ⟨?_, ?_⟩
        ·
         refine ⟨_, rfl, rfl, by kernel_rfl, ?_⟩
         rintro D b114 a z S F
         refine ⟨by kernel_rfl, ?_⟩
         refine op_fn F (by kernel_rfl) (rcheck_any _ As cs Ae ce x (h.move S rfl) ok) ?_
         rintro e z ⟨rfl, hb⟩
         have S := S.grow hb
         exact ⟨_, rfl, b114, rfl, (SameB.refl _ _ rfl), S⟩
        refine ⟨?_, ?_⟩
        ·
         refine ⟨_, rfl, rfl, by kernel_rfl, ?_⟩
         rintro D b114 a z S F
         refine ⟨by kernel_rfl, ?_⟩
         exact op_allocF S 8 rfl _ (.agg #[.slice none 0 0, .slice none 0 0]) rfl (by kernel_rfl) fun y115 z S => ⟨y115, rfl, ⟨rfl, rfl, rfl, trivial, trivial, trivial, trivial⟩, S⟩
        refine ⟨?_, ?_⟩
        ·
         refine ⟨_, rfl, rfl, by kernel_rfl, ?_⟩
         rintro D b114 a z S F
         refine ⟨by kernel_rfl, ?_⟩
         exact op_storeB S 8 _ _ _ b114 0 (.agg #[.slice As x.spots.length cs, .slice Ae x.edges.length ce]) F rfl rfl (by kernel_rfl) (by kernel_rfl) (by kernel_rfl) (by kernel_rfl) (by kernel_rfl) fun z S => ⟨b114, rfl, (SameB.refl _ _ rfl), S⟩
        trivial
       ·
        rintro b114 a z F S
        have F := F.sub (l := [(3, .pointer (some ⟨b2, 0, none⟩)), (5, .pointer (some ⟨b96, 0, none⟩)), (6, .int .i64 er), (7, .pointer (some ⟨b114, 0, none⟩)), (8, .int .i64 (chkP x))]) ⟨by kernel_rfl, by kernel_rfl, by kernel_rfl, by kernel_rfl, by kernel_rfl, trivial⟩
        have S : Sat w z [rest w (· < w.heap.size), box b1 25 [.slice As x.spots.length cs, .slice Ae x.edges.length ce], box b2 45 [.slice An N.length cn, .slice Aed E.length ced, .slice Aa A.length ca], row 107 2 (.slice A88 x.spots.length c89) x.spots.length (x.spots.flatMap spC), row 62 8 (.slice A90 x.edges.length c91) x.edges.length (x.edges.flatMap edC), row 107 2 (.slice A92 yr.spots.length c93) yr.spots.length (yr.spots.flatMap spC), row 62 8 (.slice A94 yr.edges.length c95) yr.edges.length (yr.edges.flatMap edC), box b96 32 [.slice A92 yr.spots.length c93, .slice A94 yr.edges.length c95], box b114 25 [.slice As x.spots.length cs, .slice Ae x.edges.length ce]] := S
        refine then_n ?_
        refine wp_seq ?_
        refine s_reg ?_
        refine l_pure 1 (fun L => (9, .int .i64 0) :: L) F (by kernel_rfl) fun a F => ?_
        refine l_then ?_
        refine wp_block ?_
        by_cases ht116 : (chkP x : Int) = (0 : Int)
        ·
         skip
         have hc := ht116
         refine wp_loop_m (fun m a z => ∃ (i : Nat) (y : Wb) (f : Int) (B1 : Option Addr) (d1 : Nat) (B2 : Option Addr) (d2 : Nat), m = E.length - i ∧ (i ≤ E.length) ∧ ((f = 0 → goL y ((trips E N A).drop i) = goR x E N A) ∧ (f ≠ 0 → goR x E N A = (noWeb, f))) ∧ y.Ok ∧ (y.spots.length ≤ 1000) ∧ (y.edges.length ≤ 1000) ∧ (Recs 2 spC w B1 d1 y.spots) ∧ Fr a 122 [(3, .pointer (some ⟨b2, 0, none⟩)), (5, .pointer (some ⟨b96, 0, none⟩)), (6, .int .i64 er), (7, .pointer (some ⟨b114, 0, none⟩)), (8, .int .i64 f), (9, .int .i64 (i : Nat))] ∧ Sat w z [rest w (· < w.heap.size), box b1 25 [.slice As x.spots.length cs, .slice Ae x.edges.length ce], box b2 45 [.slice An N.length cn, .slice Aed E.length ced, .slice Aa A.length ca], row 107 2 (.slice A88 x.spots.length c89) x.spots.length (x.spots.flatMap spC), row 62 8 (.slice A90 x.edges.length c91) x.edges.length (x.edges.flatMap edC), row 107 2 (.slice A92 yr.spots.length c93) yr.spots.length (yr.spots.flatMap spC), row 62 8 (.slice A94 yr.edges.length c95) yr.edges.length (yr.edges.flatMap edC), box b96 32 [.slice A92 yr.spots.length c93, .slice A94 yr.edges.length c95], box b114 25 [.slice B1 y.spots.length d1, .slice B2 y.edges.length d2], rowI i w 104 8 edC B2 d2 y.edges]) _ ⟨0, x, chkP x, As, cs, Ae, ce, rfl, Nat.zero_le _, ⟨fun _ => goR_ok hc, fun h9 => absurd hc h9⟩, ok, l1, l2, h.s, F.sub ⟨by kernel_rfl, by kernel_rfl, by kernel_rfl, by kernel_rfl, by kernel_rfl, by kernel_rfl, trivial⟩, (S.pushI 104 h.e)⟩ ?_
         rintro m a z ⟨i, y, f, B1, d1, B2, d2, hm, hf117, hf118, hf119, hf120, hf121, hf122, F, S⟩
         have hgo := hf118
         have oky := hf119
         have hy1 := hf120
         have hy2 := hf121
         have hsp := hf122
         refine wp_seq ?_
         refine s_reg ?_
         refine l_pure 2 (fun L => (77, .pointer (some ⟨b2, 1, none⟩)) :: (76, .int .i64 (i : Nat)) :: L) F (by kernel_rfl) fun a F => ?_
         refine l_do F rfl rfl (op_load _ _ (some ⟨b2, 0, none⟩) 1 (.slice Aed E.length ced) F rfl (by kernel_rfl) (by kernel_rfl) (cBox S 2 rfl (j := 1) rfl) (fun a F => ?_))
         refine l_pure 1 (fun L => (79, .int .i64 (E.length : Nat)) :: L) F (by kernel_rfl) fun a F => ?_
         by_cases ht123 : ((i : Nat) : Int) < ((E.length : Nat) : Int)
         ·
          skip
          have hl9 := hlens.1
          have hl8 := hlens.2
          obtain ⟨eg, heg⟩ : ∃ eg, E[i]? = some eg := ⟨_, List.getElem?_eq_getElem (by omega)⟩
          obtain ⟨nd, hnd⟩ : ∃ nd, N[i]? = some nd := ⟨_, List.getElem?_eq_getElem (by omega)⟩
          obtain ⟨am, ham⟩ : ∃ am, A[i]? = some am := ⟨_, List.getElem?_eq_getElem (by omega)⟩
          have hua := hAu am (List.mem_of_getElem? ham)
          obtain ⟨y2, er2, hs2⟩ : ∃ y2 er2, sentP y eg nd am = (y2, er2) := ⟨_, _, rfl⟩
          obtain ⟨oky2, hy3, hy4⟩ := sent_ok9 oky hua hs2
          refine l_do F rfl rfl (op_pure F (v0 := .bool (decide (((i : Nat) : Int) < ((E.length : Nat) : Int)))) (v := .bool true) (by kernel_rfl) (lssT ht123) fun a F => ?_)
          refine l_pure 2 (fun L => (82, .int .i64 f) :: (81, .bool true) :: L) F (by kernel_rfl) fun a F => ?_
          by_cases ht124 : (f : Int) = (0 : Int)
          ·
           skip
           have hf := ht124
           have hst := goL_step (hgo.1 hf) heg hnd ham hs2
           refine l_do F rfl rfl (op_pure F (v0 := .bool ((f : Int) == (0 : Int))) (v := .bool true) (by kernel_rfl) (eqlT ht124) fun a F => ?_)
           refine l_pure 1 (fun L => (84, .bool true) :: L) F (by kernel_rfl) fun a F => ?_
           refine l_then ?_
           refine c_t F rfl ?_
           refine wp_skip ?_
           refine then_n ?_
           refine wp_seq ?_
           refine wp_block ?_
           have S := S.pushEmp.pushEmp
           refine region_gx (fun D => fun ((A125, c126, A127, c128) : Option Addr × Nat × Option Addr × Nat) => [rest w (· < w.heap.size), box b1 25 [.slice As x.spots.length cs, .slice Ae x.edges.length ce], box b2 45 [.slice An N.length cn, .slice Aed E.length ced, .slice Aa A.length ca], row 107 2 (.slice A88 x.spots.length c89) x.spots.length (x.spots.flatMap spC), row 62 8 (.slice A90 x.edges.length c91) x.edges.length (x.edges.flatMap edC), row 107 2 (.slice A92 yr.spots.length c93) yr.spots.length (yr.spots.flatMap spC), row 62 8 (.slice A94 yr.edges.length c95) yr.edges.length (yr.edges.flatMap edC), box b96 32 [.slice A92 yr.spots.length c93, .slice A94 yr.edges.length c95], bif D 20 then box b114 25 [.slice A125 y2.spots.length c126, .slice A127 y2.edges.length c128] else box b114 25 [.slice B1 y.spots.length d1, .slice B2 y.edges.length d2], rowI i w 104 8 edC B2 d2 y.edges, bif D 16 then row 104 8 (.slice A127 y2.edges.length c128) y2.edges.length (y2.edges.flatMap edC) else emp, bif D 16 then when (Recs 2 spC w A125 c126 y2.spots) emp else emp]) (fun ((A125, c126, A127, c128) : Option Addr × Nat × Option Addr × Nat) => [.agg #[.slice B1 y.spots.length d1, .slice B2 y.edges.length d2], .pointer (some ⟨b2, 1, none⟩), .slice Aed E.length ced, .int .i64 (i : Nat), ptrA Aed (i * 1), .int .i64 eg, .pointer (some ⟨b2, 0, none⟩), .slice An N.length cn, .int .i64 (i : Nat), ptrA An (i * 1), .int .i64 nd, .pointer (some ⟨b2, 2, none⟩), .slice Aa A.length ca, .int .i64 (i : Nat), ptrA Aa (i * 1), .int .u64 am, .tuple #[.agg #[.slice A125 y2.spots.length c126, .slice A127 y2.edges.length c128], .int .i64 er2], .tuple #[.agg #[.slice A125 y2.spots.length c126, .slice A127 y2.edges.length c128], .int .i64 er2], .agg #[.slice A125 y2.spots.length c126, .slice A127 y2.edges.length c128], .int .i64 er2, undef, .int .i64 er2]) [(0, [], [16, 20]), (2, [], [4, 5, 16, 20]), (4, [2], [5, 16, 20]), (5, [2, 4], [16, 20]), (7, [], [9, 10, 16, 20]), (9, [7], [10, 16, 20]), (10, [7, 9], [16, 20]), (12, [], [14, 15, 16, 20]), (14, [12], [15, 16, 20]), (15, [12, 14], [16, 20]), (16, [0, 2, 4, 5, 7, 9, 10, 12, 14, 15], [20]), (20, [0, 2, 4, 5, 7, 9, 10, 12, 14, 15, 16], [])] (none, 0, none, 0) rfl (by kernel_rfl) (by kernel_rfl) F S.drew ?_ ?_ ?_ ?_ ?_
           · rintro ⟨A125, c126, A127, c128⟩; rfl
           · rintro ⟨A125, c126, A127, c128⟩; kernel_rfl
           ·
            intro D D' x h
            obtain ⟨A125, c126, A127, c128⟩ := x
            simp only [h 16 (by decide), h 20 (by decide)]
           ·
            refine ⟨?_, ?_⟩
            ·
             refine ⟨_, rfl, rfl, by kernel_rfl, ?_⟩
             rintro D ⟨A125, c126, A127, c128⟩ a z S F
             refine ⟨by kernel_rfl, ?_⟩
             exact op_loadK _ _ (some ⟨b114, 0, none⟩) 0 [.slice B1 y.spots.length d1, .slice B2 y.edges.length d2] F rfl (by kernel_rfl) (by kernel_rfl) (by kernel_rfl) (by simp) (cBoxK S 8 rfl 0 (by kernel_rfl)) (⟨(A125, c126, A127, c128), rfl, (SameB.refl _ _ rfl), S⟩)
            refine ⟨?_, ?_⟩
            ·
             refine ⟨_, rfl, rfl, by kernel_rfl, ?_⟩
             rintro D ⟨A125, c126, A127, c128⟩ a z S F
             refine ⟨by kernel_rfl, ?_⟩
             exact op_load _ _ (some ⟨b2, 0, none⟩) 1 (.slice Aed E.length ced) F rfl (by kernel_rfl) (by kernel_rfl) (cBox S 2 rfl (j := 1) rfl) (⟨(A125, c126, A127, c128), rfl, (SameB.refl _ _ rfl), S⟩)
            refine ⟨?_, ?_⟩
            ·
             refine ⟨_, rfl, rfl, by kernel_rfl, ?_⟩
             rintro D ⟨A125, c126, A127, c128⟩ a z S F
             refine ⟨by kernel_rfl, ?_⟩
             exact op_index _ 3 _ _ Aed E.length ced i 1 .i64 F rfl (by kernel_rfl) (by kernel_rfl) (by kernel_rfl) (by kernel_rfl) (get_lt heg) (recs_some hE (m := i) (get_lt heg)) (⟨(A125, c126, A127, c128), rfl, (SameB.refl _ _ rfl), S⟩)
            refine ⟨?_, ?_⟩
            ·
             refine ⟨_, rfl, rfl, by kernel_rfl, ?_⟩
             rintro D ⟨A125, c126, A127, c128⟩ a z S F
             refine ⟨by kernel_rfl, ?_⟩
             exact op_load _ _ Aed (i * 1) (.int .i64 eg) F rfl (by kernel_rfl) (by kernel_rfl) (cOld S 0 iC_len_i64 hE rfl 0 heg rfl) (⟨(A125, c126, A127, c128), rfl, (SameB.refl _ _ rfl), S⟩)
            refine ⟨?_, ?_⟩
            ·
             refine ⟨_, rfl, rfl, by kernel_rfl, ?_⟩
             rintro D ⟨A125, c126, A127, c128⟩ a z S F
             refine ⟨by kernel_rfl, ?_⟩
             exact op_load _ _ (some ⟨b2, 0, none⟩) 0 (.slice An N.length cn) F rfl (by kernel_rfl) (by kernel_rfl) (cBox S 2 rfl (j := 0) rfl) (⟨(A125, c126, A127, c128), rfl, (SameB.refl _ _ rfl), S⟩)
            refine ⟨?_, ?_⟩
            ·
             refine ⟨_, rfl, rfl, by kernel_rfl, ?_⟩
             rintro D ⟨A125, c126, A127, c128⟩ a z S F
             refine ⟨by kernel_rfl, ?_⟩
             exact op_index _ 3 _ _ An N.length cn i 1 .i64 F rfl (by kernel_rfl) (by kernel_rfl) (by kernel_rfl) (by kernel_rfl) (get_lt hnd) (recs_some hN (m := i) (get_lt hnd)) (⟨(A125, c126, A127, c128), rfl, (SameB.refl _ _ rfl), S⟩)
            refine ⟨?_, ?_⟩
            ·
             refine ⟨_, rfl, rfl, by kernel_rfl, ?_⟩
             rintro D ⟨A125, c126, A127, c128⟩ a z S F
             refine ⟨by kernel_rfl, ?_⟩
             exact op_load _ _ An (i * 1) (.int .i64 nd) F rfl (by kernel_rfl) (by kernel_rfl) (cOld S 0 iC_len_i64 hN rfl 0 hnd rfl) (⟨(A125, c126, A127, c128), rfl, (SameB.refl _ _ rfl), S⟩)
            refine ⟨?_, ?_⟩
            ·
             refine ⟨_, rfl, rfl, by kernel_rfl, ?_⟩
             rintro D ⟨A125, c126, A127, c128⟩ a z S F
             refine ⟨by kernel_rfl, ?_⟩
             exact op_load _ _ (some ⟨b2, 0, none⟩) 2 (.slice Aa A.length ca) F rfl (by kernel_rfl) (by kernel_rfl) (cBox S 2 rfl (j := 2) rfl) (⟨(A125, c126, A127, c128), rfl, (SameB.refl _ _ rfl), S⟩)
            refine ⟨?_, ?_⟩
            ·
             refine ⟨_, rfl, rfl, by kernel_rfl, ?_⟩
             rintro D ⟨A125, c126, A127, c128⟩ a z S F
             refine ⟨by kernel_rfl, ?_⟩
             exact op_index _ 26 _ _ Aa A.length ca i 1 .i64 F rfl (by kernel_rfl) (by kernel_rfl) (by kernel_rfl) (by kernel_rfl) (get_lt ham) (recs_some hA (m := i) (get_lt ham)) (⟨(A125, c126, A127, c128), rfl, (SameB.refl _ _ rfl), S⟩)
            refine ⟨?_, ?_⟩
            ·
             refine ⟨_, rfl, rfl, by kernel_rfl, ?_⟩
             rintro D ⟨A125, c126, A127, c128⟩ a z S F
             refine ⟨by kernel_rfl, ?_⟩
             exact op_load _ _ Aa (i * 1) (.int .u64 am) F rfl (by kernel_rfl) (by kernel_rfl) (cOld S 0 iC_len_u64 hA rfl 0 ham rfl) (⟨(A125, c126, A127, c128), rfl, (SameB.refl _ _ rfl), S⟩)
            refine ⟨?_, ?_⟩
            ·
             refine ⟨_, rfl, rfl, by kernel_rfl, ?_⟩
             rintro D ⟨A125, c126, A127, c128⟩ a z S F
             refine ⟨by kernel_rfl, ?_⟩
             refine op_fn F (by kernel_rfl) (rsent_at2 _ B1 d1 B2 d2 y ⟨(hsp.mono (src_rest S (i := 0) rfl hsp.src (src_lt hsp.src))), (rowI_recs S 0 9 rfl rfl hy2)⟩ oky eg nd am hua hy1 hy2 hs2 hsp) ?_
             rintro e z ⟨A133, c134, A135, c136, rfl, hsp2, g⟩
             have S := S.fillThing 10 rfl g
             have S := S.shut_when (i := 11) (p := Recs 2 spC w A133 c134 y2.spots) hsp2 rfl
             exact ⟨_, rfl, (A133, c134, A135, c136), rfl, ⟨rfl, rfl, rfl, rfl, rfl, rfl, rfl, rfl, rfl, rfl, rfl, rfl, rfl, rfl, rfl, rfl, trivial, trivial, trivial, trivial, trivial, trivial, trivial⟩, S⟩
            refine ⟨?_, ?_⟩
            ·
             refine ⟨_, rfl, rfl, by kernel_rfl, ?_⟩
             rintro D ⟨A125, c126, A127, c128⟩ a z S F
             refine ⟨by kernel_rfl, ?_⟩
             exact op_storeB S 8 _ _ _ b114 0 (.agg #[.slice A125 y2.spots.length c126, .slice A127 y2.edges.length c128]) F rfl rfl (by kernel_rfl) (by kernel_rfl) (by kernel_rfl) (by kernel_rfl) (by kernel_rfl) fun z S => ⟨(A125, c126, A127, c128), rfl, (SameB.refl _ _ rfl), S⟩
            trivial
           ·
            rintro ⟨A125, c126, A127, c128⟩ a z F S
            have F := F.sub (l := [(3, .pointer (some ⟨b2, 0, none⟩)), (5, .pointer (some ⟨b96, 0, none⟩)), (6, .int .i64 er), (7, .pointer (some ⟨b114, 0, none⟩)), (8, .int .i64 er2), (9, .int .i64 (i : Nat))]) ⟨by kernel_rfl, by kernel_rfl, by kernel_rfl, by kernel_rfl, by kernel_rfl, by kernel_rfl, trivial⟩
            have S : Sat w z [rest w (· < w.heap.size), box b1 25 [.slice As x.spots.length cs, .slice Ae x.edges.length ce], box b2 45 [.slice An N.length cn, .slice Aed E.length ced, .slice Aa A.length ca], row 107 2 (.slice A88 x.spots.length c89) x.spots.length (x.spots.flatMap spC), row 62 8 (.slice A90 x.edges.length c91) x.edges.length (x.edges.flatMap edC), row 107 2 (.slice A92 yr.spots.length c93) yr.spots.length (yr.spots.flatMap spC), row 62 8 (.slice A94 yr.edges.length c95) yr.edges.length (yr.edges.flatMap edC), box b96 32 [.slice A92 yr.spots.length c93, .slice A94 yr.edges.length c95], box b114 25 [.slice A125 y2.spots.length c126, .slice A127 y2.edges.length c128], rowI i w 104 8 edC B2 d2 y.edges, row 104 8 (.slice A127 y2.edges.length c128) y2.edges.length (y2.edges.flatMap edC), when (Recs 2 spC w A125 c126 y2.spots) emp] := S
            obtain ⟨hsp2, S⟩ := S.open_when (i := 11) rfl
            have S : Sat w z [rest w (· < w.heap.size), box b1 25 [.slice As x.spots.length cs, .slice Ae x.edges.length ce], box b2 45 [.slice An N.length cn, .slice Aed E.length ced, .slice Aa A.length ca], row 107 2 (.slice A88 x.spots.length c89) x.spots.length (x.spots.flatMap spC), row 62 8 (.slice A90 x.edges.length c91) x.edges.length (x.edges.flatMap edC), row 107 2 (.slice A92 yr.spots.length c93) yr.spots.length (yr.spots.flatMap spC), row 62 8 (.slice A94 yr.edges.length c95) yr.edges.length (yr.edges.flatMap edC), box b96 32 [.slice A92 yr.spots.length c93, .slice A94 yr.edges.length c95], box b114 25 [.slice A125 y2.spots.length c126, .slice A127 y2.edges.length c128], rowI i w 104 8 edC B2 d2 y.edges, row 104 8 (.slice A127 y2.edges.length c128) y2.edges.length (y2.edges.flatMap edC), emp] := S
            refine inb_n ?_
            refine then_n ?_
            refine wp_region_list ?_
            refine l_pure 1 (fun L => (85, .int .i64 (i : Nat)) :: L) F (by kernel_rfl) fun a F => ?_
            refine l_do F rfl rfl (op_pure F (v0 := .int .i64 (IntKind.wrap .i64 ((i : Nat) + 1))) (v := .int .i64 (i + 1 : Nat)) (by kernel_rfl) (wrn_i64 (by omega) (by omega) (by omega)) fun a F => ?_)
            refine l_pure 1 (fun L => (9, .int .i64 (i + 1 : Nat)) :: L) F (by kernel_rfl) fun a F => ?_
            refine l_then ?_
            have S := S.toI i 10 rfl
            have S : Sat w z [rest w (· < w.heap.size), box b1 25 [.slice As x.spots.length cs, .slice Ae x.edges.length ce], box b2 45 [.slice An N.length cn, .slice Aed E.length ced, .slice Aa A.length ca], row 107 2 (.slice A88 x.spots.length c89) x.spots.length (x.spots.flatMap spC), row 62 8 (.slice A90 x.edges.length c91) x.edges.length (x.edges.flatMap edC), row 107 2 (.slice A92 yr.spots.length c93) yr.spots.length (yr.spots.flatMap spC), row 62 8 (.slice A94 yr.edges.length c95) yr.edges.length (yr.edges.flatMap edC), box b96 32 [.slice A92 yr.spots.length c93, .slice A94 yr.edges.length c95], box b114 25 [.slice A125 y2.spots.length c126, .slice A127 y2.edges.length c128], rowI i w 104 8 edC B2 d2 y.edges, rowI (i + 1) w 104 8 edC A127 c128 y2.edges, emp] := S
            exact ⟨_, (by omega), i + 1, y2, er2, A125, c126, A127, c128, rfl, (by omega), hst, oky2, (by omega), (by omega), hsp2, F.sub ⟨by kernel_rfl, by kernel_rfl, by kernel_rfl, by kernel_rfl, by kernel_rfl, by kernel_rfl, trivial⟩, (S.pick [0, 1, 2, 3, 4, 5, 6, 7, 8, 10] (by decide))⟩
          ·
           skip
           have hf := ht124
           have h9 := hgo.2 hf
           rw [goX_in hg hlens] at h9
           obtain ⟨hyr, her⟩ := Prod.mk.inj h9
           refine l_do F rfl rfl (op_pure F (v0 := .bool ((f : Int) == (0 : Int))) (v := .bool false) (by kernel_rfl) (eqlF ht124) fun a F => ?_)
           refine l_pure 1 (fun L => (84, .bool false) :: L) F (by kernel_rfl) fun a F => ?_
           refine l_then ?_
           refine c_f F rfl ?_
           refine wp_exit ?_
           refine then_x ?_
           refine then_x ?_
           refine inb_x ?_
           refine then_n ?_
           refine wp_seq ?_
           refine s_reg ?_
           refine l_pure 1 (fun L => (107, .int .i64 f) :: L) F (by kernel_rfl) fun a F => ?_
           refine l_do F rfl rfl (op_pure F (v0 := .bool ((f : Int) != (0 : Int))) (v := .bool true) (by kernel_rfl) (neqT ht124) fun a F => ?_)
           refine l_then ?_
           refine c_t F rfl ?_
           refine wp_region_list ?_
           refine l_pure 1 (fun L => (109, .agg #[.slice none 0 0, .slice none 0 0]) :: L) F (by kernel_rfl) fun a F => ?_
           refine l_do F rfl rfl (op_storeB S 8 _ _ _ b114 0 (.agg #[.slice none 0 0, .slice none 0 0]) F rfl rfl (by kernel_rfl) (by kernel_rfl) (by kernel_rfl) (by kernel_rfl) (by kernel_rfl) fun z S a F => ?_)
           refine l_then ?_
           refine wp_seq ?_
           have S := S.pushEmp.pushEmp
           refine region_gx (fun D => fun ((A137, c138, A139, c140) : Option Addr × Nat × Option Addr × Nat) => [rest w (· < w.heap.size), box b1 25 [.slice As x.spots.length cs, .slice Ae x.edges.length ce], box b2 45 [.slice An N.length cn, .slice Aed E.length ced, .slice Aa A.length ca], row 107 2 (.slice A88 x.spots.length c89) x.spots.length (x.spots.flatMap spC), row 62 8 (.slice A90 x.edges.length c91) x.edges.length (x.edges.flatMap edC), row 107 2 (.slice A92 yr.spots.length c93) yr.spots.length (yr.spots.flatMap spC), row 62 8 (.slice A94 yr.edges.length c95) yr.edges.length (yr.edges.flatMap edC), box b96 32 [.slice A92 yr.spots.length c93, .slice A94 yr.edges.length c95], box b114 25 [.slice none 0 0, .slice none 0 0], rowI i w 104 8 edC B2 d2 y.edges, bif D 8 then row 106 2 (.slice A137 yr.spots.length c138) yr.spots.length (yr.spots.flatMap spC) else emp, bif D 8 then row 104 8 (.slice A139 yr.edges.length c140) yr.edges.length (yr.edges.flatMap edC) else emp]) (fun ((A137, c138, A139, c140) : Option Addr × Nat × Option Addr × Nat) => [.bool true, .bool true, .int .i64 er, .int .i64 f, .bool true, .bool true, .bool true, .agg #[.slice A92 yr.spots.length c93, .slice A94 yr.edges.length c95], .agg #[.slice A137 yr.spots.length c138, .slice A139 yr.edges.length c140], .agg #[.slice none 0 0, .slice none 0 0], .bool true, .bool true, .bool true]) [(0, [], [4, 7, 8, 9, 10]), (4, [0], [7, 8, 9, 10]), (7, [0, 4], [8, 10]), (8, [0, 4, 7], [10]), (9, [0, 4], [10]), (10, [0, 4, 7, 8, 9], [])] (none, 0, none, 0) rfl (by kernel_rfl) (by kernel_rfl) F S.drew ?_ ?_ ?_ ?_ ?_
           · rintro ⟨A137, c138, A139, c140⟩; rfl
           · rintro ⟨A137, c138, A139, c140⟩; kernel_rfl
           ·
            intro D D' x h
            obtain ⟨A137, c138, A139, c140⟩ := x
            simp only [h 8 (by decide)]
           ·
            refine ⟨?_, ?_⟩
            ·
             refine ⟨_, rfl, rfl, by kernel_rfl, ?_⟩
             rintro D ⟨A137, c138, A139, c140⟩ a z S F
             refine ⟨by kernel_rfl, ?_⟩
             refine op_fn F (by kernel_rfl) (awake08_any _) ?_
             rintro e z ⟨rfl, hb⟩
             have S := S.grow hb
             exact ⟨_, rfl, (A137, c138, A139, c140), rfl, (SameB.refl _ _ rfl), S⟩
            refine ⟨?_, ?_⟩
            ·
             refine ⟨_, rfl, rfl, by kernel_rfl, ?_⟩
             rintro D ⟨A137, c138, A139, c140⟩ a z S F
             refine ⟨by kernel_rfl, ?_⟩
             exact op_pure F (v0 := .bool ((er : Int) == (f : Int))) (v := .bool true) (by kernel_rfl) (eqlT her) ⟨(A137, c138, A139, c140), rfl, (SameB.refl _ _ rfl), S⟩
            refine ⟨?_, ?_⟩
            ·
             refine ⟨_, rfl, rfl, by kernel_rfl, ?_⟩
             rintro D ⟨A137, c138, A139, c140⟩ a z S F
             refine ⟨by kernel_rfl, ?_⟩
             exact op_loadK _ _ (some ⟨b96, 0, none⟩) 0 [.slice A92 yr.spots.length c93, .slice A94 yr.edges.length c95] F rfl (by kernel_rfl) (by kernel_rfl) (by kernel_rfl) (by simp) (cBoxK S 7 rfl 0 (by kernel_rfl)) (⟨(A137, c138, A139, c140), rfl, (SameB.refl _ _ rfl), S⟩)
            refine ⟨?_, ?_⟩
            ·
             refine ⟨_, rfl, rfl, by kernel_rfl, ?_⟩
             rintro D ⟨A137, c138, A139, c140⟩ a z S F
             refine ⟨by kernel_rfl, ?_⟩
             refine op_fn F (by kernel_rfl) (from_any _ A92 c93 A94 c95 yr (WebAt.ofNew (x := yr) (w := w) S (i := 5) (j := 6) rfl rfl ⟨hr1, hr2⟩) okr ⟨hr1, hr2⟩) ?_
             rintro e z ⟨y141, y142, y143, y144, rfl, g⟩
             have S := S.fillThing2 10 11 rfl rfl (by decide) g
             exact ⟨_, rfl, (y141, y142, y143, y144), rfl, ⟨rfl, rfl, rfl, rfl, rfl, rfl, rfl, rfl, trivial, rfl, trivial, trivial, trivial, trivial⟩, S⟩
            refine ⟨?_, ?_⟩
            ·
             refine ⟨_, rfl, rfl, by kernel_rfl, ?_⟩
             rintro D ⟨A137, c138, A139, c140⟩ a z S F
             refine ⟨by kernel_rfl, ?_⟩
             exact op_loadK _ _ (some ⟨b114, 0, none⟩) 0 [.slice none 0 0, .slice none 0 0] F rfl (by kernel_rfl) (by kernel_rfl) (by kernel_rfl) (by simp) (cBoxK S 8 rfl 0 (by kernel_rfl)) (⟨(A137, c138, A139, c140), rfl, (SameB.refl _ _ rfl), S⟩)
            refine ⟨?_, ?_⟩
            ·
             refine ⟨_, rfl, rfl, by kernel_rfl, ?_⟩
             rintro D ⟨A137, c138, A139, c140⟩ a z S F
             refine ⟨by kernel_rfl, ?_⟩
             refine op_fn F (by kernel_rfl) (same_eq hyr _ A137 c138 A139 c140 (WebAt.ofNew (x := yr) (w := w) S (i := 10) (j := 11) rfl rfl ⟨hr1, hr2⟩) okr none 0 none 0 (WebAt.none _)) ?_
             rintro e z ⟨rfl, hb⟩
             have S := S.grow hb
             exact ⟨_, rfl, (A137, c138, A139, c140), rfl, (SameB.refl _ _ rfl), S⟩
            trivial
           ·
            rintro ⟨A137, c138, A139, c140⟩ a z F S
            have F := F.sub (l := [(4, .bool true)]) ⟨by kernel_rfl, trivial⟩
            have S : Sat w z [rest w (· < w.heap.size), box b1 25 [.slice As x.spots.length cs, .slice Ae x.edges.length ce], box b2 45 [.slice An N.length cn, .slice Aed E.length ced, .slice Aa A.length ca], row 107 2 (.slice A88 x.spots.length c89) x.spots.length (x.spots.flatMap spC), row 62 8 (.slice A90 x.edges.length c91) x.edges.length (x.edges.flatMap edC), row 107 2 (.slice A92 yr.spots.length c93) yr.spots.length (yr.spots.flatMap spC), row 62 8 (.slice A94 yr.edges.length c95) yr.edges.length (yr.edges.flatMap edC), box b96 32 [.slice A92 yr.spots.length c93, .slice A94 yr.edges.length c95], box b114 25 [.slice none 0 0, .slice none 0 0], rowI i w 104 8 edC B2 d2 y.edges, row 106 2 (.slice A137 yr.spots.length c138) yr.spots.length (yr.spots.flatMap spC), row 104 8 (.slice A139 yr.edges.length c140) yr.edges.length (yr.edges.flatMap edC)] := S
            refine then_n ?_
            refine wp_ret ?_
            exact fin F [.tmp 4] [.bool true] rfl ⟨by kernel_rfl, trivial⟩ (.bool true) rfl ⟨rfl, S.below (i := 0) rfl⟩
         ·
          skip
          refine l_do F rfl rfl (op_pure F (v0 := .bool (decide (((i : Nat) : Int) < ((E.length : Nat) : Int)))) (v := .bool false) (by kernel_rfl) (lssF ht123) fun a F => ?_)
          refine l_pure 4 (fun L => (84, .bool false) :: (83, undef) :: (82, undef) :: (81, .bool false) :: L) F (by kernel_rfl) fun a F => ?_
          refine l_then ?_
          refine c_f F rfl ?_
          refine wp_exit ?_
          refine then_x ?_
          refine then_x ?_
          refine inb_x ?_
          refine then_n ?_
          refine wp_seq ?_
          refine s_reg ?_
          refine l_pure 1 (fun L => (107, .int .i64 f) :: L) F (by kernel_rfl) fun a F => ?_
          by_cases ht149 : (f : Int) = (0 : Int)
          ·
           skip
           have hf := ht149
           obtain ⟨hyr, her⟩ := goL_end (hgo.1 hf) (by omega) (goX_in hg hlens)
           refine l_do F rfl rfl (op_pure F (v0 := .bool ((f : Int) != (0 : Int))) (v := .bool false) (by kernel_rfl) (neqF ht149) fun a F => ?_)
           refine l_then ?_
           refine c_f F rfl ?_
           refine wp_skip ?_
           refine then_n ?_
           refine wp_seq ?_
           have S := S.pushEmp.pushEmp
           refine region_gx (fun D => fun ((A150, c151, A152, c153) : Option Addr × Nat × Option Addr × Nat) => [rest w (· < w.heap.size), box b1 25 [.slice As x.spots.length cs, .slice Ae x.edges.length ce], box b2 45 [.slice An N.length cn, .slice Aed E.length ced, .slice Aa A.length ca], row 107 2 (.slice A88 x.spots.length c89) x.spots.length (x.spots.flatMap spC), row 62 8 (.slice A90 x.edges.length c91) x.edges.length (x.edges.flatMap edC), row 107 2 (.slice A92 yr.spots.length c93) yr.spots.length (yr.spots.flatMap spC), row 62 8 (.slice A94 yr.edges.length c95) yr.edges.length (yr.edges.flatMap edC), box b96 32 [.slice A92 yr.spots.length c93, .slice A94 yr.edges.length c95], box b114 25 [.slice B1 y.spots.length d1, .slice B2 y.edges.length d2], rowI i w 104 8 edC B2 d2 y.edges, bif D 8 then row 106 2 (.slice A150 yr.spots.length c151) yr.spots.length (yr.spots.flatMap spC) else emp, bif D 8 then row 104 8 (.slice A152 yr.edges.length c153) yr.edges.length (yr.edges.flatMap edC) else emp]) (fun ((A150, c151, A152, c153) : Option Addr × Nat × Option Addr × Nat) => [.bool true, .bool true, .int .i64 er, .int .i64 f, .bool true, .bool true, .bool true, .agg #[.slice A92 yr.spots.length c93, .slice A94 yr.edges.length c95], .agg #[.slice A150 yr.spots.length c151, .slice A152 yr.edges.length c153], .agg #[.slice B1 y.spots.length d1, .slice B2 y.edges.length d2], .bool true, .bool true, .bool true]) [(0, [], [4, 7, 8, 9, 10]), (4, [0], [7, 8, 9, 10]), (7, [0, 4], [8, 10]), (8, [0, 4, 7], [10]), (9, [0, 4], [10]), (10, [0, 4, 7, 8, 9], [])] (none, 0, none, 0) rfl (by kernel_rfl) (by kernel_rfl) F S.drew ?_ ?_ ?_ ?_ ?_
           · rintro ⟨A150, c151, A152, c153⟩; rfl
           · rintro ⟨A150, c151, A152, c153⟩; kernel_rfl
           ·
            intro D D' x h
            obtain ⟨A150, c151, A152, c153⟩ := x
            simp only [h 8 (by decide)]
           ·
            refine ⟨?_, ?_⟩
            ·
             refine ⟨_, rfl, rfl, by kernel_rfl, ?_⟩
             rintro D ⟨A150, c151, A152, c153⟩ a z S F
             refine ⟨by kernel_rfl, ?_⟩
             refine op_fn F (by kernel_rfl) (awake08_any _) ?_
             rintro e z ⟨rfl, hb⟩
             have S := S.grow hb
             exact ⟨_, rfl, (A150, c151, A152, c153), rfl, (SameB.refl _ _ rfl), S⟩
            refine ⟨?_, ?_⟩
            ·
             refine ⟨_, rfl, rfl, by kernel_rfl, ?_⟩
             rintro D ⟨A150, c151, A152, c153⟩ a z S F
             refine ⟨by kernel_rfl, ?_⟩
             exact op_pure F (v0 := .bool ((er : Int) == (f : Int))) (v := .bool true) (by kernel_rfl) (eqlT (her.symm.trans hf.symm)) ⟨(A150, c151, A152, c153), rfl, (SameB.refl _ _ rfl), S⟩
            refine ⟨?_, ?_⟩
            ·
             refine ⟨_, rfl, rfl, by kernel_rfl, ?_⟩
             rintro D ⟨A150, c151, A152, c153⟩ a z S F
             refine ⟨by kernel_rfl, ?_⟩
             exact op_loadK _ _ (some ⟨b96, 0, none⟩) 0 [.slice A92 yr.spots.length c93, .slice A94 yr.edges.length c95] F rfl (by kernel_rfl) (by kernel_rfl) (by kernel_rfl) (by simp) (cBoxK S 7 rfl 0 (by kernel_rfl)) (⟨(A150, c151, A152, c153), rfl, (SameB.refl _ _ rfl), S⟩)
            refine ⟨?_, ?_⟩
            ·
             refine ⟨_, rfl, rfl, by kernel_rfl, ?_⟩
             rintro D ⟨A150, c151, A152, c153⟩ a z S F
             refine ⟨by kernel_rfl, ?_⟩
             refine op_fn F (by kernel_rfl) (from_any _ A92 c93 A94 c95 yr (WebAt.ofNew (x := yr) (w := w) S (i := 5) (j := 6) rfl rfl ⟨hr1, hr2⟩) okr ⟨hr1, hr2⟩) ?_
             rintro e z ⟨y154, y155, y156, y157, rfl, g⟩
             have S := S.fillThing2 10 11 rfl rfl (by decide) g
             exact ⟨_, rfl, (y154, y155, y156, y157), rfl, ⟨rfl, rfl, rfl, rfl, rfl, rfl, rfl, rfl, trivial, rfl, trivial, trivial, trivial, trivial⟩, S⟩
            refine ⟨?_, ?_⟩
            ·
             refine ⟨_, rfl, rfl, by kernel_rfl, ?_⟩
             rintro D ⟨A150, c151, A152, c153⟩ a z S F
             refine ⟨by kernel_rfl, ?_⟩
             exact op_loadK _ _ (some ⟨b114, 0, none⟩) 0 [.slice B1 y.spots.length d1, .slice B2 y.edges.length d2] F rfl (by kernel_rfl) (by kernel_rfl) (by kernel_rfl) (by simp) (cBoxK S 8 rfl 0 (by kernel_rfl)) (⟨(A150, c151, A152, c153), rfl, (SameB.refl _ _ rfl), S⟩)
            refine ⟨?_, ?_⟩
            ·
             refine ⟨_, rfl, rfl, by kernel_rfl, ?_⟩
             rintro D ⟨A150, c151, A152, c153⟩ a z S F
             refine ⟨by kernel_rfl, ?_⟩
             refine op_fn F (by kernel_rfl) (same_eq hyr.symm _ A150 c151 A152 c153 (WebAt.ofNew (x := yr) (w := w) S (i := 10) (j := 11) rfl rfl ⟨hr1, hr2⟩) okr B1 d1 B2 d2 ⟨(hsp.mono (src_rest S (i := 0) rfl hsp.src (src_lt hsp.src))), (rowI_recs S 0 9 rfl rfl hy2)⟩) ?_
             rintro e z ⟨rfl, hb⟩
             have S := S.grow hb
             exact ⟨_, rfl, (A150, c151, A152, c153), rfl, (SameB.refl _ _ rfl), S⟩
            trivial
           ·
            rintro ⟨A150, c151, A152, c153⟩ a z F S
            have F := F.sub (l := [(4, .bool true)]) ⟨by kernel_rfl, trivial⟩
            have S : Sat w z [rest w (· < w.heap.size), box b1 25 [.slice As x.spots.length cs, .slice Ae x.edges.length ce], box b2 45 [.slice An N.length cn, .slice Aed E.length ced, .slice Aa A.length ca], row 107 2 (.slice A88 x.spots.length c89) x.spots.length (x.spots.flatMap spC), row 62 8 (.slice A90 x.edges.length c91) x.edges.length (x.edges.flatMap edC), row 107 2 (.slice A92 yr.spots.length c93) yr.spots.length (yr.spots.flatMap spC), row 62 8 (.slice A94 yr.edges.length c95) yr.edges.length (yr.edges.flatMap edC), box b96 32 [.slice A92 yr.spots.length c93, .slice A94 yr.edges.length c95], box b114 25 [.slice B1 y.spots.length d1, .slice B2 y.edges.length d2], rowI i w 104 8 edC B2 d2 y.edges, row 106 2 (.slice A150 yr.spots.length c151) yr.spots.length (yr.spots.flatMap spC), row 104 8 (.slice A152 yr.edges.length c153) yr.edges.length (yr.edges.flatMap edC)] := S
            refine then_n ?_
            refine wp_ret ?_
            exact fin F [.tmp 4] [.bool true] rfl ⟨by kernel_rfl, trivial⟩ (.bool true) rfl ⟨rfl, S.below (i := 0) rfl⟩
          ·
           skip
           have hf := ht149
           have h9 := hgo.2 hf
           rw [goX_in hg hlens] at h9
           obtain ⟨hyr, her⟩ := Prod.mk.inj h9
           refine l_do F rfl rfl (op_pure F (v0 := .bool ((f : Int) != (0 : Int))) (v := .bool true) (by kernel_rfl) (neqT ht149) fun a F => ?_)
           refine l_then ?_
           refine c_t F rfl ?_
           refine wp_region_list ?_
           refine l_pure 1 (fun L => (109, .agg #[.slice none 0 0, .slice none 0 0]) :: L) F (by kernel_rfl) fun a F => ?_
           refine l_do F rfl rfl (op_storeB S 8 _ _ _ b114 0 (.agg #[.slice none 0 0, .slice none 0 0]) F rfl rfl (by kernel_rfl) (by kernel_rfl) (by kernel_rfl) (by kernel_rfl) (by kernel_rfl) fun z S a F => ?_)
           refine l_then ?_
           refine wp_seq ?_
           have S := S.pushEmp.pushEmp
           refine region_gx (fun D => fun ((A162, c163, A164, c165) : Option Addr × Nat × Option Addr × Nat) => [rest w (· < w.heap.size), box b1 25 [.slice As x.spots.length cs, .slice Ae x.edges.length ce], box b2 45 [.slice An N.length cn, .slice Aed E.length ced, .slice Aa A.length ca], row 107 2 (.slice A88 x.spots.length c89) x.spots.length (x.spots.flatMap spC), row 62 8 (.slice A90 x.edges.length c91) x.edges.length (x.edges.flatMap edC), row 107 2 (.slice A92 yr.spots.length c93) yr.spots.length (yr.spots.flatMap spC), row 62 8 (.slice A94 yr.edges.length c95) yr.edges.length (yr.edges.flatMap edC), box b96 32 [.slice A92 yr.spots.length c93, .slice A94 yr.edges.length c95], box b114 25 [.slice none 0 0, .slice none 0 0], rowI i w 104 8 edC B2 d2 y.edges, bif D 8 then row 106 2 (.slice A162 yr.spots.length c163) yr.spots.length (yr.spots.flatMap spC) else emp, bif D 8 then row 104 8 (.slice A164 yr.edges.length c165) yr.edges.length (yr.edges.flatMap edC) else emp]) (fun ((A162, c163, A164, c165) : Option Addr × Nat × Option Addr × Nat) => [.bool true, .bool true, .int .i64 er, .int .i64 f, .bool true, .bool true, .bool true, .agg #[.slice A92 yr.spots.length c93, .slice A94 yr.edges.length c95], .agg #[.slice A162 yr.spots.length c163, .slice A164 yr.edges.length c165], .agg #[.slice none 0 0, .slice none 0 0], .bool true, .bool true, .bool true]) [(0, [], [4, 7, 8, 9, 10]), (4, [0], [7, 8, 9, 10]), (7, [0, 4], [8, 10]), (8, [0, 4, 7], [10]), (9, [0, 4], [10]), (10, [0, 4, 7, 8, 9], [])] (none, 0, none, 0) rfl (by kernel_rfl) (by kernel_rfl) F S.drew ?_ ?_ ?_ ?_ ?_
           · rintro ⟨A162, c163, A164, c165⟩; rfl
           · rintro ⟨A162, c163, A164, c165⟩; kernel_rfl
           ·
            intro D D' x h
            obtain ⟨A162, c163, A164, c165⟩ := x
            simp only [h 8 (by decide)]
           ·
            refine ⟨?_, ?_⟩
            ·
             refine ⟨_, rfl, rfl, by kernel_rfl, ?_⟩
             rintro D ⟨A162, c163, A164, c165⟩ a z S F
             refine ⟨by kernel_rfl, ?_⟩
             refine op_fn F (by kernel_rfl) (awake08_any _) ?_
             rintro e z ⟨rfl, hb⟩
             have S := S.grow hb
             exact ⟨_, rfl, (A162, c163, A164, c165), rfl, (SameB.refl _ _ rfl), S⟩
            refine ⟨?_, ?_⟩
            ·
             refine ⟨_, rfl, rfl, by kernel_rfl, ?_⟩
             rintro D ⟨A162, c163, A164, c165⟩ a z S F
             refine ⟨by kernel_rfl, ?_⟩
             exact op_pure F (v0 := .bool ((er : Int) == (f : Int))) (v := .bool true) (by kernel_rfl) (eqlT her) ⟨(A162, c163, A164, c165), rfl, (SameB.refl _ _ rfl), S⟩
            refine ⟨?_, ?_⟩
            ·
             refine ⟨_, rfl, rfl, by kernel_rfl, ?_⟩
             rintro D ⟨A162, c163, A164, c165⟩ a z S F
             refine ⟨by kernel_rfl, ?_⟩
             exact op_loadK _ _ (some ⟨b96, 0, none⟩) 0 [.slice A92 yr.spots.length c93, .slice A94 yr.edges.length c95] F rfl (by kernel_rfl) (by kernel_rfl) (by kernel_rfl) (by simp) (cBoxK S 7 rfl 0 (by kernel_rfl)) (⟨(A162, c163, A164, c165), rfl, (SameB.refl _ _ rfl), S⟩)
            refine ⟨?_, ?_⟩
            ·
             refine ⟨_, rfl, rfl, by kernel_rfl, ?_⟩
             rintro D ⟨A162, c163, A164, c165⟩ a z S F
             refine ⟨by kernel_rfl, ?_⟩
             refine op_fn F (by kernel_rfl) (from_any _ A92 c93 A94 c95 yr (WebAt.ofNew (x := yr) (w := w) S (i := 5) (j := 6) rfl rfl ⟨hr1, hr2⟩) okr ⟨hr1, hr2⟩) ?_
             rintro e z ⟨y166, y167, y168, y169, rfl, g⟩
             have S := S.fillThing2 10 11 rfl rfl (by decide) g
             exact ⟨_, rfl, (y166, y167, y168, y169), rfl, ⟨rfl, rfl, rfl, rfl, rfl, rfl, rfl, rfl, trivial, rfl, trivial, trivial, trivial, trivial⟩, S⟩
            refine ⟨?_, ?_⟩
            ·
             refine ⟨_, rfl, rfl, by kernel_rfl, ?_⟩
             rintro D ⟨A162, c163, A164, c165⟩ a z S F
             refine ⟨by kernel_rfl, ?_⟩
             exact op_loadK _ _ (some ⟨b114, 0, none⟩) 0 [.slice none 0 0, .slice none 0 0] F rfl (by kernel_rfl) (by kernel_rfl) (by kernel_rfl) (by simp) (cBoxK S 8 rfl 0 (by kernel_rfl)) (⟨(A162, c163, A164, c165), rfl, (SameB.refl _ _ rfl), S⟩)
            refine ⟨?_, ?_⟩
            ·
             refine ⟨_, rfl, rfl, by kernel_rfl, ?_⟩
             rintro D ⟨A162, c163, A164, c165⟩ a z S F
             refine ⟨by kernel_rfl, ?_⟩
             refine op_fn F (by kernel_rfl) (same_eq hyr _ A162 c163 A164 c165 (WebAt.ofNew (x := yr) (w := w) S (i := 10) (j := 11) rfl rfl ⟨hr1, hr2⟩) okr none 0 none 0 (WebAt.none _)) ?_
             rintro e z ⟨rfl, hb⟩
             have S := S.grow hb
             exact ⟨_, rfl, (A162, c163, A164, c165), rfl, (SameB.refl _ _ rfl), S⟩
            trivial
           ·
            rintro ⟨A162, c163, A164, c165⟩ a z F S
            have F := F.sub (l := [(4, .bool true)]) ⟨by kernel_rfl, trivial⟩
            have S : Sat w z [rest w (· < w.heap.size), box b1 25 [.slice As x.spots.length cs, .slice Ae x.edges.length ce], box b2 45 [.slice An N.length cn, .slice Aed E.length ced, .slice Aa A.length ca], row 107 2 (.slice A88 x.spots.length c89) x.spots.length (x.spots.flatMap spC), row 62 8 (.slice A90 x.edges.length c91) x.edges.length (x.edges.flatMap edC), row 107 2 (.slice A92 yr.spots.length c93) yr.spots.length (yr.spots.flatMap spC), row 62 8 (.slice A94 yr.edges.length c95) yr.edges.length (yr.edges.flatMap edC), box b96 32 [.slice A92 yr.spots.length c93, .slice A94 yr.edges.length c95], box b114 25 [.slice none 0 0, .slice none 0 0], rowI i w 104 8 edC B2 d2 y.edges, row 106 2 (.slice A162 yr.spots.length c163) yr.spots.length (yr.spots.flatMap spC), row 104 8 (.slice A164 yr.edges.length c165) yr.edges.length (yr.edges.flatMap edC)] := S
            refine then_n ?_
            refine wp_ret ?_
            exact fin F [.tmp 4] [.bool true] rfl ⟨by kernel_rfl, trivial⟩ (.bool true) rfl ⟨rfl, S.below (i := 0) rfl⟩
        ·
         skip
         have hc := ht116
         obtain ⟨hyr, her⟩ := goX_chk hg hlens hc
         refine wp_loop_once ?_
         refine wp_seq ?_
         refine s_reg ?_
         refine l_pure 2 (fun L => (77, .pointer (some ⟨b2, 1, none⟩)) :: (76, .int .i64 0) :: L) F (by kernel_rfl) fun a F => ?_
         refine l_do F rfl rfl (op_load _ _ (some ⟨b2, 0, none⟩) 1 (.slice Aed E.length ced) F rfl (by kernel_rfl) (by kernel_rfl) (cBox S 2 rfl (j := 1) rfl) (fun a F => ?_))
         refine l_pure 1 (fun L => (79, .int .i64 (E.length : Nat)) :: L) F (by kernel_rfl) fun a F => ?_
         by_cases ht174 : (0 : Int) < ((E.length : Nat) : Int)
         ·
          skip
          refine l_do F rfl rfl (op_pure F (v0 := .bool (decide ((0 : Int) < ((E.length : Nat) : Int)))) (v := .bool true) (by kernel_rfl) (lssT ht174) fun a F => ?_)
          refine l_pure 2 (fun L => (82, .int .i64 (chkP x)) :: (81, .bool true) :: L) F (by kernel_rfl) fun a F => ?_
          refine l_do F rfl rfl (op_pure F (v0 := .bool ((chkP x : Int) == (0 : Int))) (v := .bool false) (by kernel_rfl) (eqlF ht116) fun a F => ?_)
          refine l_pure 1 (fun L => (84, .bool false) :: L) F (by kernel_rfl) fun a F => ?_
          refine l_then ?_
          refine c_f F rfl ?_
          refine wp_exit ?_
          refine then_x ?_
          refine then_x ?_
          refine inb_x ?_
          refine then_n ?_
          refine wp_seq ?_
          refine s_reg ?_
          refine l_pure 1 (fun L => (107, .int .i64 (chkP x)) :: L) F (by kernel_rfl) fun a F => ?_
          refine l_do F rfl rfl (op_pure F (v0 := .bool ((chkP x : Int) != (0 : Int))) (v := .bool true) (by kernel_rfl) (neqT ht116) fun a F => ?_)
          refine l_then ?_
          refine c_t F rfl ?_
          refine wp_region_list ?_
          refine l_pure 1 (fun L => (109, .agg #[.slice none 0 0, .slice none 0 0]) :: L) F (by kernel_rfl) fun a F => ?_
          refine l_do F rfl rfl (op_storeB S 8 _ _ _ b114 0 (.agg #[.slice none 0 0, .slice none 0 0]) F rfl rfl (by kernel_rfl) (by kernel_rfl) (by kernel_rfl) (by kernel_rfl) (by kernel_rfl) fun z S a F => ?_)
          refine l_then ?_
          refine wp_seq ?_
          have S := S.pushEmp.pushEmp
          refine region_gx (fun D => fun ((A175, c176, A177, c178) : Option Addr × Nat × Option Addr × Nat) => [rest w (· < w.heap.size), box b1 25 [.slice As x.spots.length cs, .slice Ae x.edges.length ce], box b2 45 [.slice An N.length cn, .slice Aed E.length ced, .slice Aa A.length ca], row 107 2 (.slice A88 x.spots.length c89) x.spots.length (x.spots.flatMap spC), row 62 8 (.slice A90 x.edges.length c91) x.edges.length (x.edges.flatMap edC), row 107 2 (.slice A92 yr.spots.length c93) yr.spots.length (yr.spots.flatMap spC), row 62 8 (.slice A94 yr.edges.length c95) yr.edges.length (yr.edges.flatMap edC), box b96 32 [.slice A92 yr.spots.length c93, .slice A94 yr.edges.length c95], box b114 25 [.slice none 0 0, .slice none 0 0], bif D 8 then row 106 2 (.slice A175 yr.spots.length c176) yr.spots.length (yr.spots.flatMap spC) else emp, bif D 8 then row 104 8 (.slice A177 yr.edges.length c178) yr.edges.length (yr.edges.flatMap edC) else emp]) (fun ((A175, c176, A177, c178) : Option Addr × Nat × Option Addr × Nat) => [.bool true, .bool true, .int .i64 er, .int .i64 (chkP x), .bool true, .bool true, .bool true, .agg #[.slice A92 yr.spots.length c93, .slice A94 yr.edges.length c95], .agg #[.slice A175 yr.spots.length c176, .slice A177 yr.edges.length c178], .agg #[.slice none 0 0, .slice none 0 0], .bool true, .bool true, .bool true]) [(0, [], [4, 7, 8, 9, 10]), (4, [0], [7, 8, 9, 10]), (7, [0, 4], [8, 10]), (8, [0, 4, 7], [10]), (9, [0, 4], [10]), (10, [0, 4, 7, 8, 9], [])] (none, 0, none, 0) rfl (by kernel_rfl) (by kernel_rfl) F S.drew ?_ ?_ ?_ ?_ ?_
          · rintro ⟨A175, c176, A177, c178⟩; rfl
          · rintro ⟨A175, c176, A177, c178⟩; kernel_rfl
          ·
           intro D D' x h
           obtain ⟨A175, c176, A177, c178⟩ := x
           simp only [h 8 (by decide)]
          ·
           refine ⟨?_, ?_⟩
           ·
            refine ⟨_, rfl, rfl, by kernel_rfl, ?_⟩
            rintro D ⟨A175, c176, A177, c178⟩ a z S F
            refine ⟨by kernel_rfl, ?_⟩
            refine op_fn F (by kernel_rfl) (awake08_any _) ?_
            rintro e z ⟨rfl, hb⟩
            have S := S.grow hb
            exact ⟨_, rfl, (A175, c176, A177, c178), rfl, (SameB.refl _ _ rfl), S⟩
           refine ⟨?_, ?_⟩
           ·
            refine ⟨_, rfl, rfl, by kernel_rfl, ?_⟩
            rintro D ⟨A175, c176, A177, c178⟩ a z S F
            refine ⟨by kernel_rfl, ?_⟩
            exact op_pure F (v0 := .bool ((er : Int) == (chkP x : Int))) (v := .bool true) (by kernel_rfl) (eqlT her) ⟨(A175, c176, A177, c178), rfl, (SameB.refl _ _ rfl), S⟩
           refine ⟨?_, ?_⟩
           ·
            refine ⟨_, rfl, rfl, by kernel_rfl, ?_⟩
            rintro D ⟨A175, c176, A177, c178⟩ a z S F
            refine ⟨by kernel_rfl, ?_⟩
            exact op_loadK _ _ (some ⟨b96, 0, none⟩) 0 [.slice A92 yr.spots.length c93, .slice A94 yr.edges.length c95] F rfl (by kernel_rfl) (by kernel_rfl) (by kernel_rfl) (by simp) (cBoxK S 7 rfl 0 (by kernel_rfl)) (⟨(A175, c176, A177, c178), rfl, (SameB.refl _ _ rfl), S⟩)
           refine ⟨?_, ?_⟩
           ·
            refine ⟨_, rfl, rfl, by kernel_rfl, ?_⟩
            rintro D ⟨A175, c176, A177, c178⟩ a z S F
            refine ⟨by kernel_rfl, ?_⟩
            refine op_fn F (by kernel_rfl) (from_any _ A92 c93 A94 c95 yr (WebAt.ofNew (x := yr) (w := w) S (i := 5) (j := 6) rfl rfl ⟨hr1, hr2⟩) okr ⟨hr1, hr2⟩) ?_
            rintro e z ⟨y179, y180, y181, y182, rfl, g⟩
            have S := S.fillThing2 9 10 rfl rfl (by decide) g
            exact ⟨_, rfl, (y179, y180, y181, y182), rfl, ⟨rfl, rfl, rfl, rfl, rfl, rfl, rfl, rfl, trivial, rfl, trivial, trivial, trivial, trivial⟩, S⟩
           refine ⟨?_, ?_⟩
           ·
            refine ⟨_, rfl, rfl, by kernel_rfl, ?_⟩
            rintro D ⟨A175, c176, A177, c178⟩ a z S F
            refine ⟨by kernel_rfl, ?_⟩
            exact op_loadK _ _ (some ⟨b114, 0, none⟩) 0 [.slice none 0 0, .slice none 0 0] F rfl (by kernel_rfl) (by kernel_rfl) (by kernel_rfl) (by simp) (cBoxK S 8 rfl 0 (by kernel_rfl)) (⟨(A175, c176, A177, c178), rfl, (SameB.refl _ _ rfl), S⟩)
           refine ⟨?_, ?_⟩
           ·
            refine ⟨_, rfl, rfl, by kernel_rfl, ?_⟩
            rintro D ⟨A175, c176, A177, c178⟩ a z S F
            refine ⟨by kernel_rfl, ?_⟩
            refine op_fn F (by kernel_rfl) (same_eq hyr _ A175 c176 A177 c178 (WebAt.ofNew (x := yr) (w := w) S (i := 9) (j := 10) rfl rfl ⟨hr1, hr2⟩) okr none 0 none 0 (WebAt.none _)) ?_
            rintro e z ⟨rfl, hb⟩
            have S := S.grow hb
            exact ⟨_, rfl, (A175, c176, A177, c178), rfl, (SameB.refl _ _ rfl), S⟩
           trivial
          ·
           rintro ⟨A175, c176, A177, c178⟩ a z F S
           have F := F.sub (l := [(4, .bool true)]) ⟨by kernel_rfl, trivial⟩
           have S : Sat w z [rest w (· < w.heap.size), box b1 25 [.slice As x.spots.length cs, .slice Ae x.edges.length ce], box b2 45 [.slice An N.length cn, .slice Aed E.length ced, .slice Aa A.length ca], row 107 2 (.slice A88 x.spots.length c89) x.spots.length (x.spots.flatMap spC), row 62 8 (.slice A90 x.edges.length c91) x.edges.length (x.edges.flatMap edC), row 107 2 (.slice A92 yr.spots.length c93) yr.spots.length (yr.spots.flatMap spC), row 62 8 (.slice A94 yr.edges.length c95) yr.edges.length (yr.edges.flatMap edC), box b96 32 [.slice A92 yr.spots.length c93, .slice A94 yr.edges.length c95], box b114 25 [.slice none 0 0, .slice none 0 0], row 106 2 (.slice A175 yr.spots.length c176) yr.spots.length (yr.spots.flatMap spC), row 104 8 (.slice A177 yr.edges.length c178) yr.edges.length (yr.edges.flatMap edC)] := S
           refine then_n ?_
           refine wp_ret ?_
           exact fin F [.tmp 4] [.bool true] rfl ⟨by kernel_rfl, trivial⟩ (.bool true) rfl ⟨rfl, S.below (i := 0) rfl⟩
         ·
          skip
          refine l_do F rfl rfl (op_pure F (v0 := .bool (decide ((0 : Int) < ((E.length : Nat) : Int)))) (v := .bool false) (by kernel_rfl) (lssF ht174) fun a F => ?_)
          refine l_pure 4 (fun L => (84, .bool false) :: (83, undef) :: (82, undef) :: (81, .bool false) :: L) F (by kernel_rfl) fun a F => ?_
          refine l_then ?_
          refine c_f F rfl ?_
          refine wp_exit ?_
          refine then_x ?_
          refine then_x ?_
          refine inb_x ?_
          refine then_n ?_
          refine wp_seq ?_
          refine s_reg ?_
          refine l_pure 1 (fun L => (107, .int .i64 (chkP x)) :: L) F (by kernel_rfl) fun a F => ?_
          refine l_do F rfl rfl (op_pure F (v0 := .bool ((chkP x : Int) != (0 : Int))) (v := .bool true) (by kernel_rfl) (neqT ht116) fun a F => ?_)
          refine l_then ?_
          refine c_t F rfl ?_
          refine wp_region_list ?_
          refine l_pure 1 (fun L => (109, .agg #[.slice none 0 0, .slice none 0 0]) :: L) F (by kernel_rfl) fun a F => ?_
          refine l_do F rfl rfl (op_storeB S 8 _ _ _ b114 0 (.agg #[.slice none 0 0, .slice none 0 0]) F rfl rfl (by kernel_rfl) (by kernel_rfl) (by kernel_rfl) (by kernel_rfl) (by kernel_rfl) fun z S a F => ?_)
          refine l_then ?_
          refine wp_seq ?_
          have S := S.pushEmp.pushEmp
          refine region_gx (fun D => fun ((A187, c188, A189, c190) : Option Addr × Nat × Option Addr × Nat) => [rest w (· < w.heap.size), box b1 25 [.slice As x.spots.length cs, .slice Ae x.edges.length ce], box b2 45 [.slice An N.length cn, .slice Aed E.length ced, .slice Aa A.length ca], row 107 2 (.slice A88 x.spots.length c89) x.spots.length (x.spots.flatMap spC), row 62 8 (.slice A90 x.edges.length c91) x.edges.length (x.edges.flatMap edC), row 107 2 (.slice A92 yr.spots.length c93) yr.spots.length (yr.spots.flatMap spC), row 62 8 (.slice A94 yr.edges.length c95) yr.edges.length (yr.edges.flatMap edC), box b96 32 [.slice A92 yr.spots.length c93, .slice A94 yr.edges.length c95], box b114 25 [.slice none 0 0, .slice none 0 0], bif D 8 then row 106 2 (.slice A187 yr.spots.length c188) yr.spots.length (yr.spots.flatMap spC) else emp, bif D 8 then row 104 8 (.slice A189 yr.edges.length c190) yr.edges.length (yr.edges.flatMap edC) else emp]) (fun ((A187, c188, A189, c190) : Option Addr × Nat × Option Addr × Nat) => [.bool true, .bool true, .int .i64 er, .int .i64 (chkP x), .bool true, .bool true, .bool true, .agg #[.slice A92 yr.spots.length c93, .slice A94 yr.edges.length c95], .agg #[.slice A187 yr.spots.length c188, .slice A189 yr.edges.length c190], .agg #[.slice none 0 0, .slice none 0 0], .bool true, .bool true, .bool true]) [(0, [], [4, 7, 8, 9, 10]), (4, [0], [7, 8, 9, 10]), (7, [0, 4], [8, 10]), (8, [0, 4, 7], [10]), (9, [0, 4], [10]), (10, [0, 4, 7, 8, 9], [])] (none, 0, none, 0) rfl (by kernel_rfl) (by kernel_rfl) F S.drew ?_ ?_ ?_ ?_ ?_
          · rintro ⟨A187, c188, A189, c190⟩; rfl
          · rintro ⟨A187, c188, A189, c190⟩; kernel_rfl
          ·
           intro D D' x h
           obtain ⟨A187, c188, A189, c190⟩ := x
           simp only [h 8 (by decide)]
          ·
           refine ⟨?_, ?_⟩
           ·
            refine ⟨_, rfl, rfl, by kernel_rfl, ?_⟩
            rintro D ⟨A187, c188, A189, c190⟩ a z S F
            refine ⟨by kernel_rfl, ?_⟩
            refine op_fn F (by kernel_rfl) (awake08_any _) ?_
            rintro e z ⟨rfl, hb⟩
            have S := S.grow hb
            exact ⟨_, rfl, (A187, c188, A189, c190), rfl, (SameB.refl _ _ rfl), S⟩
           refine ⟨?_, ?_⟩
           ·
            refine ⟨_, rfl, rfl, by kernel_rfl, ?_⟩
            rintro D ⟨A187, c188, A189, c190⟩ a z S F
            refine ⟨by kernel_rfl, ?_⟩
            exact op_pure F (v0 := .bool ((er : Int) == (chkP x : Int))) (v := .bool true) (by kernel_rfl) (eqlT her) ⟨(A187, c188, A189, c190), rfl, (SameB.refl _ _ rfl), S⟩
           refine ⟨?_, ?_⟩
           ·
            refine ⟨_, rfl, rfl, by kernel_rfl, ?_⟩
            rintro D ⟨A187, c188, A189, c190⟩ a z S F
            refine ⟨by kernel_rfl, ?_⟩
            exact op_loadK _ _ (some ⟨b96, 0, none⟩) 0 [.slice A92 yr.spots.length c93, .slice A94 yr.edges.length c95] F rfl (by kernel_rfl) (by kernel_rfl) (by kernel_rfl) (by simp) (cBoxK S 7 rfl 0 (by kernel_rfl)) (⟨(A187, c188, A189, c190), rfl, (SameB.refl _ _ rfl), S⟩)
           refine ⟨?_, ?_⟩
           ·
            refine ⟨_, rfl, rfl, by kernel_rfl, ?_⟩
            rintro D ⟨A187, c188, A189, c190⟩ a z S F
            refine ⟨by kernel_rfl, ?_⟩
            refine op_fn F (by kernel_rfl) (from_any _ A92 c93 A94 c95 yr (WebAt.ofNew (x := yr) (w := w) S (i := 5) (j := 6) rfl rfl ⟨hr1, hr2⟩) okr ⟨hr1, hr2⟩) ?_
            rintro e z ⟨y191, y192, y193, y194, rfl, g⟩
            have S := S.fillThing2 9 10 rfl rfl (by decide) g
            exact ⟨_, rfl, (y191, y192, y193, y194), rfl, ⟨rfl, rfl, rfl, rfl, rfl, rfl, rfl, rfl, trivial, rfl, trivial, trivial, trivial, trivial⟩, S⟩
           refine ⟨?_, ?_⟩
           ·
            refine ⟨_, rfl, rfl, by kernel_rfl, ?_⟩
            rintro D ⟨A187, c188, A189, c190⟩ a z S F
            refine ⟨by kernel_rfl, ?_⟩
            exact op_loadK _ _ (some ⟨b114, 0, none⟩) 0 [.slice none 0 0, .slice none 0 0] F rfl (by kernel_rfl) (by kernel_rfl) (by kernel_rfl) (by simp) (cBoxK S 8 rfl 0 (by kernel_rfl)) (⟨(A187, c188, A189, c190), rfl, (SameB.refl _ _ rfl), S⟩)
           refine ⟨?_, ?_⟩
           ·
            refine ⟨_, rfl, rfl, by kernel_rfl, ?_⟩
            rintro D ⟨A187, c188, A189, c190⟩ a z S F
            refine ⟨by kernel_rfl, ?_⟩
            refine op_fn F (by kernel_rfl) (same_eq hyr _ A187 c188 A189 c190 (WebAt.ofNew (x := yr) (w := w) S (i := 9) (j := 10) rfl rfl ⟨hr1, hr2⟩) okr none 0 none 0 (WebAt.none _)) ?_
            rintro e z ⟨rfl, hb⟩
            have S := S.grow hb
            exact ⟨_, rfl, (A187, c188, A189, c190), rfl, (SameB.refl _ _ rfl), S⟩
           trivial
          ·
           rintro ⟨A187, c188, A189, c190⟩ a z F S
           have F := F.sub (l := [(4, .bool true)]) ⟨by kernel_rfl, trivial⟩
           have S : Sat w z [rest w (· < w.heap.size), box b1 25 [.slice As x.spots.length cs, .slice Ae x.edges.length ce], box b2 45 [.slice An N.length cn, .slice Aed E.length ced, .slice Aa A.length ca], row 107 2 (.slice A88 x.spots.length c89) x.spots.length (x.spots.flatMap spC), row 62 8 (.slice A90 x.edges.length c91) x.edges.length (x.edges.flatMap edC), row 107 2 (.slice A92 yr.spots.length c93) yr.spots.length (yr.spots.flatMap spC), row 62 8 (.slice A94 yr.edges.length c95) yr.edges.length (yr.edges.flatMap edC), box b96 32 [.slice A92 yr.spots.length c93, .slice A94 yr.edges.length c95], box b114 25 [.slice none 0 0, .slice none 0 0], row 106 2 (.slice A187 yr.spots.length c188) yr.spots.length (yr.spots.flatMap spC), row 104 8 (.slice A189 yr.edges.length c190) yr.edges.length (yr.edges.flatMap edC)] := S
           refine then_n ?_
           refine wp_ret ?_
           exact fin F [.tmp 4] [.bool true] rfl ⟨by kernel_rfl, trivial⟩ (.bool true) rfl ⟨rfl, S.below (i := 0) rfl⟩
end Go.Proofs.Ytcfpbemoocegfaa
