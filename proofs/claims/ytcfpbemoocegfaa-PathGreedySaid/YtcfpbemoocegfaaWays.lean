/- Walks over routes, as the document says: all of them, the best one. -/
import Derived.Test.YtcfpbemoocegfaaRFill
import Derived.Test.YtcfpbemoocegfaaSteps
namespace Go.Proofs.Ytcfpbemoocegfaa
set_option linter.unusedVariables false
set_option linter.unusedSimpArgs false
set_option linter.unnecessarySimpa false
open Go Go.RowKit

/-- What ways comes to, with f channels left. -/
def WaysOk (f : Nat) : Prop := ∀ (w : World) (G : Nat → Prop) (As : Option Addr) (cs : Nat) (Ae : Option Addr) (ce : Nat) (x : Wb) (h : WebAt w As cs Ae ce x) (ok : x.Ok) (gs : InG G As (x.spots.flatMap spC)) (ge : InG G Ae (x.edges.flatMap edC)) (am : Int) (hua : U64 am) (to : Int) (N E : List Int) (An : Option Addr) (cn : Nat) (hN : Recs 1 iC_i64 w An cn N) (gN : InG G An (N.flatMap iC_i64)) (Am : Option Addr) (cm : Nat) (hE : Recs 1 iC_i64 w Am cm E) (gE : InG G Am (E.flatMap iC_i64)) (hw : WayOk x N E) (hl : E.length ≤ 7) (hf8 : E.length + f = 8) (hne : E = [] → N.getLastD 0 ≠ to) (Ar : Option Addr) (cr : Nat) (R : List RtM) (hR : R.length ≤ 32) (hS : Sat w w [row 45 3 (.slice Ar R.length cr) R.length (R.flatMap rtC), bag (R.flatMap rtRows), rest w G]), Calls Try.prog 59 #[.agg #[.slice As x.spots.length cs, .slice Ae x.edges.length ce], .int .i64 to, .int .u64 am, .slice An N.length cn, .slice Am E.length cm, .slice Ar R.length cr] w fun e w' => ∃ (A' : Option Addr) (c' : Nat) (R' : List RtM), e = .returned (.slice A' R'.length c') ∧ R'.map RtM.r = waysP x to am f N E (R.map RtM.r) ∧ Sat w w' [row 45 3 (.slice A' R'.length c') R'.length (R'.flatMap rtC), bag (R'.flatMap rtRows), rest w G]
theorem rsteps_few8 (x : Wb) (n : Int) : (stepsP x n).length ≤ 16 := by
  unfold stepsP
  split
  · rename_i h
    have := stepsF_len n x.edges 0
    have := (chk_zero h).2.1
    omega
  · simp
theorem fill_cases8 (x : Wb) (N E : List Int) (am : Int) : fillP x N E am = none ∨ ∃ r, fillP x N E am = some r := fill_cases x N E am
set_option maxRecDepth 100000 in
set_option maxHeartbeats 4000000 in
theorem ways_step {f : Nat} (ih : WaysOk f) : WaysOk (f + 1) := by
  intro w G As cs Ae ce x h ok gs ge am hua to N E An cn hN gN Am cm hE gE hw hl hf8 hne Ar cr R hR hS
  refine enter 92 Try.func59 rfl rfl rfl fun a F => ?_
  have S : Sat w w [rest w G, row 45 3 (.slice Ar R.length cr) R.length (R.flatMap rtC), bag (R.flatMap rtRows)] := hS.pick [2, 0, 1] (by decide)
  have hwl := hw.len
  have hlast := last_ne hw
  refine s_reg ?_
  refine l_do F rfl rfl (op_box S _ _ (.agg #[.slice As x.spots.length cs, .slice Ae x.edges.length ce]) F rfl (by kernel_rfl) fun b1 z S a F => ?_)
  refine l_pure 1 (fun L => (12, .slice none 0 0) :: L) F (by kernel_rfl) fun a F => ?_
  refine l_then ?_
  refine wp_seq ?_
  refine s_reg ?_
  refine l_pure 2 (fun L => (19, .int .i64 (R.length : Nat)) :: (18, .slice Ar R.length cr) :: L) F (by kernel_rfl) fun a F => ?_
  by_cases ht2 : (32 : Int) ≤ ((R.length : Nat) : Int)
  ·
   skip
   have h32 := ht2
   refine l_do F rfl rfl (op_pure F (v0 := .bool (decide (((R.length : Nat) : Int) ≥ (32 : Int)))) (v := .bool true) (by kernel_rfl) (geqT ht2) fun a F => ?_)
   refine l_then ?_
   refine c_t F rfl ?_
   refine s_reg ?_
   refine l_pure 2 (fun L => (12, .slice Ar R.length cr) :: (21, .slice Ar R.length cr) :: L) F (by kernel_rfl) fun a F => ?_
   refine l_then ?_
   refine wp_ret ?_
   refine then_r (?_)
   exact fin F [.tmp 12] [.slice Ar R.length cr] rfl ⟨by kernel_rfl, trivial⟩ (.slice Ar R.length cr) rfl ⟨Ar, cr, R, rfl, (ways_full (by rw [List.length_map]; omega)).symm, S.pick [1, 2, 0] (by decide)⟩
  ·
   skip
   have h32 := ht2
   refine l_do F rfl rfl (op_pure F (v0 := .bool (decide (((R.length : Nat) : Int) ≥ (32 : Int)))) (v := .bool false) (by kernel_rfl) (geqF ht2) fun a F => ?_)
   refine l_then ?_
   refine c_f F rfl ?_
   refine wp_skip ?_
   refine then_n ?_
   refine s_reg ?_
   refine l_pure 3 (fun L => (24, .int .i64 (N.length : Nat)) :: (23, .slice An N.length cn) :: (22, .slice An N.length cn) :: L) F (by kernel_rfl) fun a F => ?_
   refine l_do F rfl rfl (op_pure F (v0 := .int .i64 (IntKind.wrap .i64 ((N.length : Nat) - 1))) (v := .int .i64 (N.length - 1 : Nat)) (by kernel_rfl) (wrn_i64 (by omega) (by omega) (by omega)) fun a F => ?_)
   refine l_do F rfl rfl (op_index _ 3 _ _ An N.length cn (N.length - 1) 1 .i64 F rfl (by kernel_rfl) (by kernel_rfl) (by kernel_rfl) (by kernel_rfl) (by omega) (recs_some hN (m := N.length - 1) (by omega)) (fun a F => ?_))
   refine l_do F rfl rfl (op_load _ _ An ((N.length - 1) * 1) (.int .i64 (N.getLastD 0)) F rfl (by kernel_rfl) (by kernel_rfl) (cOldG S 0 iC_len_i64 hN gN rfl 0 hlast rfl) (fun a F => ?_))
   refine l_pure 1 (fun L => (13, .int .i64 (N.getLastD 0)) :: L) F (by kernel_rfl) fun a F => ?_
   refine l_then ?_
   refine wp_seq ?_
   refine s_reg ?_
   refine l_pure 2 (fun L => (29, .int .i64 to) :: (28, .int .i64 (N.getLastD 0)) :: L) F (by kernel_rfl) fun a F => ?_
   by_cases ht3 : ((N.getLastD 0) : Int) = (to : Int)
   ·
    skip
    have hto := ht3
    have hl1 : 1 ≤ E.length := by
      rcases Nat.eq_zero_or_pos E.length with h9 | h9
      · exact absurd hto (hne (List.eq_nil_of_length_eq_zero h9))
      · exact h9
    refine l_do F rfl rfl (op_pure F (v0 := .bool (((N.getLastD 0) : Int) == (to : Int))) (v := .bool true) (by kernel_rfl) (eqlT ht3) fun a F => ?_)
    refine l_then ?_
    refine c_t F rfl ?_
    refine s_reg ?_
    refine l_do F rfl rfl (op_loadK _ _ (some ⟨b1, 0, none⟩) 0 [.slice As x.spots.length cs, .slice Ae x.edges.length ce] F rfl (by kernel_rfl) (by kernel_rfl) (by kernel_rfl) (by simp) (cBoxK S 3 rfl 0 (by kernel_rfl)) (fun a F => ?_))
    refine l_pure 3 (fun L => (35, .int .u64 am) :: (34, .slice Am E.length cm) :: (33, .slice An N.length cn) :: L) F (by kernel_rfl) fun a F => ?_
    rcases fill_cases x N E am with hf | ⟨r, hf⟩
    ·
     skip
     refine l_do F rfl rfl (op_fn F (by kernel_rfl) (rfill_not _ As cs Ae ce x ⟨h.s.mono (src_rest S (i := 0) rfl h.s.src gs), h.e.mono (src_rest S (i := 0) rfl h.e.src ge)⟩ ok An cn N (hN.mono (src_rest S (i := 0) rfl hN.src gN)) Am cm E (hE.mono (src_rest S (i := 0) rfl hE.src gE)) am hua hw hl hl1 hf) ?_)
     rintro e z ⟨rfl, hb⟩
     have S := S.grow hb
     refine ⟨_, rfl, ?_⟩
     intro a F
     refine l_pure 3 (fun L => (38, .bool false) :: (37, .agg #[.slice none 0 0, .slice none 0 0, .slice none 0 0]) :: (31, .tuple #[.agg #[.slice none 0 0, .slice none 0 0, .slice none 0 0], .bool false]) :: L) F (by kernel_rfl) fun a F => ?_
     refine l_do F rfl rfl (op_alloc S _ (.agg #[.slice none 0 0, .slice none 0 0, .slice none 0 0]) rfl (by kernel_rfl) fun b4 z S a F => ?_)
     refine l_do F rfl rfl (op_storeB S 4 _ _ _ b4 0 (.agg #[.slice none 0 0, .slice none 0 0, .slice none 0 0]) F rfl rfl (by kernel_rfl) (by kernel_rfl) (by kernel_rfl) (by kernel_rfl) (by kernel_rfl) fun z S a F => ?_)
     refine l_pure 1 (fun L => (15, .bool false) :: L) F (by kernel_rfl) fun a F => ?_
     refine l_then ?_
     refine wp_seq ?_
     refine s_reg ?_
     refine l_pure 1 (fun L => (39, .bool false) :: L) F (by kernel_rfl) fun a F => ?_
     refine l_then ?_
     refine c_f F rfl ?_
     refine wp_skip ?_
     refine then_n ?_
     refine s_reg ?_
     refine l_pure 2 (fun L => (12, .slice Ar R.length cr) :: (44, .slice Ar R.length cr) :: L) F (by kernel_rfl) fun a F => ?_
     refine l_then ?_
     refine wp_ret ?_
     refine then_r (?_)
     exact fin F [.tmp 12] [.slice Ar R.length cr] rfl ⟨by kernel_rfl, trivial⟩ (.slice Ar R.length cr) rfl ⟨Ar, cr, R, rfl, (by rw [ways_there (by rw [List.length_map]; omega) hto, hf]), S.pick [1, 2, 0] (by decide)⟩
    ·
     skip
     refine l_do F rfl rfl (op_fn F (by kernel_rfl) (rfill_got _ As cs Ae ce x ⟨h.s.mono (src_rest S (i := 0) rfl h.s.src gs), h.e.mono (src_rest S (i := 0) rfl h.e.src ge)⟩ ok An cn N (hN.mono (src_rest S (i := 0) rfl hN.src gN)) Am cm E (hE.mono (src_rest S (i := 0) rfl hE.src gE)) am hua hw hl hl1 hf) ?_)
     rintro e z ⟨A5, c6, A7, c8, A9, c10, rfl, g⟩
     have S := S.pushThings g
     refine ⟨_, rfl, ?_⟩
     intro a F
     refine l_pure 3 (fun L => (38, .bool true) :: (37, .agg #[.slice A5 r.nodes.length c6, .slice A7 r.edges.length c8, .slice A9 r.amts.length c10]) :: (31, .tuple #[.agg #[.slice A5 r.nodes.length c6, .slice A7 r.edges.length c8, .slice A9 r.amts.length c10], .bool true]) :: L) F (by kernel_rfl) fun a F => ?_
     refine l_do F rfl rfl (op_alloc S _ (.agg #[.slice none 0 0, .slice none 0 0, .slice none 0 0]) rfl (by kernel_rfl) fun b11 z S a F => ?_)
     refine l_do F rfl rfl (op_storeB S 7 _ _ _ b11 0 (.agg #[.slice A5 r.nodes.length c6, .slice A7 r.edges.length c8, .slice A9 r.amts.length c10]) F rfl rfl (by kernel_rfl) (by kernel_rfl) (by kernel_rfl) (by kernel_rfl) (by kernel_rfl) fun z S a F => ?_)
     refine l_pure 1 (fun L => (15, .bool true) :: L) F (by kernel_rfl) fun a F => ?_
     refine l_then ?_
     refine wp_seq ?_
     refine s_reg ?_
     refine l_pure 1 (fun L => (39, .bool true) :: L) F (by kernel_rfl) fun a F => ?_
     refine l_then ?_
     refine c_t F rfl ?_
     refine wp_region_list ?_
     refine l_pure 1 (fun L => (40, .slice Ar R.length cr) :: L) F (by kernel_rfl) fun a F => ?_
     refine l_do F rfl rfl (op_loadK _ _ (some ⟨b11, 0, none⟩) 0 [.slice A5 r.nodes.length c6, .slice A7 r.edges.length c8, .slice A9 r.amts.length c10] F rfl (by kernel_rfl) (by kernel_rfl) (by kernel_rfl) (by simp) (cBoxK S 7 rfl 0 (by kernel_rfl)) (fun a F => ?_))
     refine l_do F rfl rfl (op_buildSlice S _ 1 _ 45 3 rtC ([(⟨A5, c6, A7, c8, A9, c10, r⟩ : RtM)] : List RtM) F rfl (by kernel_rfl) (by kernel_rfl) (by kernel_rfl) (by unfold maxLen; omega) fun b12 z S a F => ?_)
     refine l_do F rfl rfl (op_append S 1 _ _ _ 45 (.agg #[.slice none 0 0, .slice none 0 0, .slice none 0 0]) 3 72 R ([(⟨A5, c6, A7, c8, A9, c10, r⟩ : RtM)] : List RtM) rtC (some ⟨b12, 0, none⟩) 1 F rtC_len (fun _ => rfl) rfl rfl (by kernel_rfl) (by kernel_rfl) rfl rfl rfl (by kernel_rfl) (by kernel_rfl) (row_none (S.rowOf (i := 8) rfl)) (src_row (S.rowOf (i := 8) rfl)) (by first | omega | (simp <;> omega)) fun A13 c14 z S a F => ?_)
     refine l_pure 1 (fun L => (5, .slice A13 ((R ++ ([(⟨A5, c6, A7, c8, A9, c10, r⟩ : RtM)] : List RtM)).length) c14) :: L) F (by kernel_rfl) fun a F => ?_
     refine l_then ?_
     refine s_reg ?_
     refine l_pure 2 (fun L => (12, .slice A13 ((R ++ ([(⟨A5, c6, A7, c8, A9, c10, r⟩ : RtM)] : List RtM)).length) c14) :: (44, .slice A13 ((R ++ ([(⟨A5, c6, A7, c8, A9, c10, r⟩ : RtM)] : List RtM)).length) c14) :: L) F (by kernel_rfl) fun a F => ?_
     refine l_then ?_
     refine wp_ret ?_
     refine then_r (?_)
     have S := bag_add (⟨A5, c6, A7, c8, A9, c10, r⟩ : RtM) S 2 4 5 6 rfl rfl rfl rfl (by decide) (by decide) (by decide) (by decide) (by decide) (by decide)
     exact fin F [.tmp 12] [.slice A13 ((R ++ ([(⟨A5, c6, A7, c8, A9, c10, r⟩ : RtM)] : List RtM)).length) c14] rfl ⟨by kernel_rfl, trivial⟩ (.slice A13 ((R ++ ([(⟨A5, c6, A7, c8, A9, c10, r⟩ : RtM)] : List RtM)).length) c14) rfl ⟨A13, c14, (R ++ ([(⟨A5, c6, A7, c8, A9, c10, r⟩ : RtM)] : List RtM)), rfl, (by rw [List.map_append, ways_there (by rw [List.length_map]; omega) hto, hf]; rfl), S.pick [1, 2, 0] (by decide)⟩
   ·
    skip
    have hto := ht3
    refine l_do F rfl rfl (op_pure F (v0 := .bool (((N.getLastD 0) : Int) == (to : Int))) (v := .bool false) (by kernel_rfl) (eqlF ht3) fun a F => ?_)
    refine l_then ?_
    refine c_f F rfl ?_
    refine wp_skip ?_
    refine then_n ?_
    refine wp_seq ?_
    refine s_reg ?_
    refine l_pure 2 (fun L => (46, .int .i64 (E.length : Nat)) :: (45, .slice Am E.length cm) :: L) F (by kernel_rfl) fun a F => ?_
    by_cases ht15 : ((E.length : Nat) : Int) = (7 : Int)
    ·
     skip
     have h7 := ht15
     refine l_do F rfl rfl (op_pure F (v0 := .bool (((E.length : Nat) : Int) == (7 : Int))) (v := .bool true) (by kernel_rfl) (eqlT ht15) fun a F => ?_)
     refine l_then ?_
     refine c_t F rfl ?_
     refine s_reg ?_
     refine l_pure 2 (fun L => (12, .slice Ar R.length cr) :: (48, .slice Ar R.length cr) :: L) F (by kernel_rfl) fun a F => ?_
     refine l_then ?_
     refine wp_ret ?_
     refine then_r (?_)
     exact fin F [.tmp 12] [.slice Ar R.length cr] rfl ⟨by kernel_rfl, trivial⟩ (.slice Ar R.length cr) rfl ⟨Ar, cr, R, rfl, (ways_long (by rw [List.length_map]; omega) hto (by omega)).symm, S.pick [1, 2, 0] (by decide)⟩
    ·
     skip
     have h7 := ht15
     refine l_do F rfl rfl (op_pure F (v0 := .bool (((E.length : Nat) : Int) == (7 : Int))) (v := .bool false) (by kernel_rfl) (eqlF ht15) fun a F => ?_)
     refine l_then ?_
     refine c_f F rfl ?_
     refine wp_skip ?_
     refine then_n ?_
     refine s_reg ?_
     refine l_do F rfl rfl (op_loadK _ _ (some ⟨b1, 0, none⟩) 0 [.slice As x.spots.length cs, .slice Ae x.edges.length ce] F rfl (by kernel_rfl) (by kernel_rfl) (by kernel_rfl) (by simp) (cBoxK S 3 rfl 0 (by kernel_rfl)) (fun a F => ?_))
     refine l_pure 1 (fun L => (50, .int .i64 (N.getLastD 0)) :: L) F (by kernel_rfl) fun a F => ?_
     refine l_do F rfl rfl (op_fn F (by kernel_rfl) (rsteps_any _ As cs Ae ce x ⟨h.s.mono (src_rest S (i := 0) rfl h.s.src gs), h.e.mono (src_rest S (i := 0) rfl h.e.src ge)⟩ ok (N.getLastD 0)) ?_)
     rintro e z ⟨A16, c17, rfl, g⟩
     have S := S.pushThings g
     refine ⟨_, rfl, ?_⟩
     intro a F
     refine l_pure 1 (fun L => (16, .slice A16 ((stepsP x (N.getLastD 0)).length) c17) :: L) F (by kernel_rfl) fun a F => ?_
     refine l_then ?_
     refine wp_seq ?_
     refine s_reg ?_
     refine l_pure 1 (fun L => (17, .int .i64 0) :: L) F (by kernel_rfl) fun a F => ?_
     refine l_then ?_
     refine wp_block ?_
     have hfew := rsteps_few8 x (N.getLastD 0)
     refine wp_loop_m (fun m a z => ∃ (j : Nat) (Ar : Option Addr) (cr : Nat) (R1 : List RtM), m = (stepsP x (N.getLastD 0)).length - j ∧ (j ≤ (stepsP x (N.getLastD 0)).length) ∧ (R1.map RtM.r = waysJ x to am f N E (R.map RtM.r) j) ∧ (R1.length ≤ 32) ∧ Fr a 92 [(1, .int .i64 to), (2, .int .u64 am), (3, .slice An N.length cn), (4, .slice Am E.length cm), (5, .slice Ar R1.length cr), (6, .pointer (some ⟨b1, 0, none⟩)), (16, .slice A16 ((stepsP x (N.getLastD 0)).length) c17), (17, .int .i64 (j : Nat))] ∧ Sat w z [rest w G, row 45 3 (.slice Ar R1.length cr) R1.length (R1.flatMap rtC), bag (R1.flatMap rtRows), box b1 25 [.slice As x.spots.length cs, .slice Ae x.edges.length ce], row 126 5 (.slice A16 ((stepsP x (N.getLastD 0)).length) c17) ((stepsP x (N.getLastD 0)).length) ((stepsP x (N.getLastD 0)).flatMap stC)]) _ ⟨0, Ar, cr, R, rfl, Nat.zero_le _, (waysJ_zero x to am f N E (R.map RtM.r)).symm, hR, F.sub ⟨by kernel_rfl, by kernel_rfl, by kernel_rfl, by kernel_rfl, by kernel_rfl, by kernel_rfl, by kernel_rfl, by kernel_rfl, trivial⟩, S⟩ ?_
     rintro m a z ⟨j, Ar, cr, R1, hm, hf18, hf19, hf20, F, S⟩
     have hRj := hf19
     have hRl := hf20
     refine wp_seq ?_
     refine s_reg ?_
     refine l_pure 3 (fun L => (54, .int .i64 ((stepsP x (N.getLastD 0)).length : Nat)) :: (53, .slice A16 ((stepsP x (N.getLastD 0)).length) c17) :: (52, .int .i64 (j : Nat)) :: L) F (by kernel_rfl) fun a F => ?_
     by_cases ht21 : ((j : Nat) : Int) < (((stepsP x (N.getLastD 0)).length : Nat) : Int)
     ·
      skip
      obtain ⟨s0, hs⟩ : ∃ s0, (stepsP x (N.getLastD 0))[j]? = some s0 := ⟨_, List.getElem?_eq_getElem (by omega)⟩
      refine l_do F rfl rfl (op_pure F (v0 := .bool (decide (((j : Nat) : Int) < (((stepsP x (N.getLastD 0)).length : Nat) : Int)))) (v := .bool true) (by kernel_rfl) (lssT ht21) fun a F => ?_)
      refine l_then ?_
      refine c_t F rfl ?_
      refine wp_skip ?_
      refine then_n ?_
      refine wp_seq ?_
      refine wp_block ?_
      refine s_reg ?_
      refine l_pure 3 (fun L => (60, .int .i64 (j : Nat)) :: (59, .slice A16 ((stepsP x (N.getLastD 0)).length) c17) :: (58, .slice An N.length cn) :: L) F (by kernel_rfl) fun a F => ?_
      refine l_do F rfl rfl (op_index _ 126 _ _ A16 ((stepsP x (N.getLastD 0)).length) c17 j 5 .i64 F rfl (by kernel_rfl) (by kernel_rfl) (by kernel_rfl) (by kernel_rfl) (get_lt hs) (row_some S 4 rfl (m := j) (get_lt hs)) (fun a F => ?_))
      refine l_do F rfl rfl (op_field _ _ _ A16 (j * 5) 1 F rfl (by kernel_rfl) (by kernel_rfl) (row_some S 4 rfl (m := j) (get_lt hs)) (fun a F => ?_))
      refine l_do F rfl rfl (op_load _ _ A16 (j * 5 + 1) (.int .i64 s0.to) F rfl (by kernel_rfl) (by kernel_rfl) (cRec S 4 stC_len rfl 1 hs rfl) (fun a F => ?_))
      cases hb22 : (decide (s0.to ∈ N)) with
      | false =>
       refine l_do F rfl rfl (op_fn F (by kernel_rfl) (rin_any _ An cn N s0.to (hN.mono (src_rest S (i := 0) rfl hN.src gN)) (by omega)) ?_)
       rintro e z ⟨rfl, hb⟩
       have S := S.grow hb
       refine ⟨_, rfl, ?_⟩
       rw [hb22]
       intro a F
       refine l_pure 1 (fun L => (65, .bool true) :: L) F (by kernel_rfl) fun a F => ?_
       refine l_then ?_
       refine c_t F rfl ?_
       have hn23 : Option.isSome A16 = true := (row_some S 4 rfl (m := j) (get_lt hs))
       have S := S.pushEmp.pushEmp.pushEmp.pushEmp.pushEmp
       refine region_gx (fun D => fun ((b24, A25, c26, b27, A28, c29, b30, A31, c32, b33, A34, c35, A36, c37, R38) : Nat × Option Addr × Nat × Nat × Option Addr × Nat × Nat × Option Addr × Nat × Nat × Option Addr × Nat × Option Addr × Nat × List RtM) => [rest w G, bif D 24 then row 45 3 (.slice A36 R38.length c37) R38.length (R38.flatMap rtC) else row 45 3 (.slice Ar R1.length cr) R1.length (R1.flatMap rtC), bif D 24 then bag (R38.flatMap rtRows) else bag (R1.flatMap rtRows), box b1 25 [.slice As x.spots.length cs, .slice Ae x.edges.length ce], row 126 5 (.slice A16 ((stepsP x (N.getLastD 0)).length) c17) ((stepsP x (N.getLastD 0)).length) ((stepsP x (N.getLastD 0)).flatMap stC), bif D 12 then row 3 1 (.slice A28 (((([] : List Int) ++ N) ++ ([s0.to] : List Int)).length) c29) (((([] : List Int) ++ N) ++ ([s0.to] : List Int)).length) (((([] : List Int) ++ N) ++ ([s0.to] : List Int)).flatMap iC_i64) else (bif D 5 then row 3 1 (.slice A25 ((([] : List Int) ++ N).length) c26) ((([] : List Int) ++ N).length) ((([] : List Int) ++ N).flatMap iC_i64) else (bif D 3 then row 3 1 (.slice (some ⟨b24, 0, none⟩) 0 0) 0 (([] : List Int).flatMap iC_i64) else emp)), bif D 11 then row 3 1 (.slice (some ⟨b27, 0, none⟩) 1 1) 1 (([s0.to] : List Int).flatMap iC_i64) else emp, bif D 22 then row 3 1 (.slice A34 (((([] : List Int) ++ E) ++ ([s0.edge] : List Int)).length) c35) (((([] : List Int) ++ E) ++ ([s0.edge] : List Int)).length) (((([] : List Int) ++ E) ++ ([s0.edge] : List Int)).flatMap iC_i64) else (bif D 15 then row 3 1 (.slice A31 ((([] : List Int) ++ E).length) c32) ((([] : List Int) ++ E).length) ((([] : List Int) ++ E).flatMap iC_i64) else (bif D 13 then row 3 1 (.slice (some ⟨b30, 0, none⟩) 0 0) 0 (([] : List Int).flatMap iC_i64) else emp)), bif D 21 then row 3 1 (.slice (some ⟨b33, 0, none⟩) 1 1) 1 (([s0.edge] : List Int).flatMap iC_i64) else emp, bif D 24 then when (R38.map RtM.r = waysP x to am f (N ++ [s0.to]) (E ++ [s0.edge]) (R1.map RtM.r)) emp else emp]) (fun ((b24, A25, c26, b27, A28, c29, b30, A31, c32, b33, A34, c35, A36, c37, R38) : Nat × Option Addr × Nat × Nat × Option Addr × Nat × Nat × Option Addr × Nat × Nat × Option Addr × Nat × Option Addr × Nat × List RtM) => [.agg #[.slice As x.spots.length cs, .slice Ae x.edges.length ce], .int .i64 to, .int .u64 am, .slice (some ⟨b24, 0, none⟩) 0 0, .slice An N.length cn, .slice A25 ((([] : List Int) ++ N).length) c26, .slice A16 ((stepsP x (N.getLastD 0)).length) c17, .int .i64 (j : Nat), ptrA A16 (j * 5), ptrA A16 (j * 5 + 1), .int .i64 s0.to, .slice (some ⟨b27, 0, none⟩) 1 1, .slice A28 (((([] : List Int) ++ N) ++ ([s0.to] : List Int)).length) c29, .slice (some ⟨b30, 0, none⟩) 0 0, .slice Am E.length cm, .slice A31 ((([] : List Int) ++ E).length) c32, .slice A16 ((stepsP x (N.getLastD 0)).length) c17, .int .i64 (j : Nat), ptrA A16 (j * 5), ptrA A16 (j * 5), .int .i64 s0.edge, .slice (some ⟨b33, 0, none⟩) 1 1, .slice A34 (((([] : List Int) ++ E) ++ ([s0.edge] : List Int)).length) c35, .slice Ar R1.length cr, .slice A36 R38.length c37, .slice A36 R38.length c37]) [(0, [], [24]), (3, [], [5, 12, 15, 22, 24]), (5, [3], [12, 15, 22, 24]), (8, [], [9, 10, 11, 12, 15, 22, 24]), (9, [8], [10, 11, 12, 15, 22, 24]), (10, [8, 9], [11, 12, 15, 22, 24]), (11, [8, 9, 10], [12, 15, 22, 24]), (12, [3, 5, 8, 9, 10, 11], [15, 22, 24]), (13, [], [15, 22, 24]), (15, [3, 5, 8, 9, 10, 11, 12, 13], [22, 24]), (18, [], [19, 20, 21, 22, 24]), (19, [18], [20, 21, 22, 24]), (20, [18, 19], [21, 22, 24]), (21, [18, 19, 20], [22, 24]), (22, [3, 5, 8, 9, 10, 11, 12, 13, 15, 18, 19, 20, 21], [24]), (24, [0, 3, 5, 8, 9, 10, 11, 12, 13, 15, 18, 19, 20, 21, 22], [])] (0, none, 0, 0, none, 0, 0, none, 0, 0, none, 0, none, 0, default) rfl (by kernel_rfl) (by kernel_rfl) F S.drew ?_ ?_ ?_ ?_ ?_
       · rintro ⟨b24, A25, c26, b27, A28, c29, b30, A31, c32, b33, A34, c35, A36, c37, R38⟩; rfl
       · rintro ⟨b24, A25, c26, b27, A28, c29, b30, A31, c32, b33, A34, c35, A36, c37, R38⟩; kernel_rfl
       ·
        intro D D' x h
        obtain ⟨b24, A25, c26, b27, A28, c29, b30, A31, c32, b33, A34, c35, A36, c37, R38⟩ := x
        simp only [h 3 (by decide), h 5 (by decide), h 11 (by decide), h 12 (by decide), h 13 (by decide), h 15 (by decide), h 21 (by decide), h 22 (by decide), h 24 (by decide)]
       ·
        refine ⟨?_, ?_⟩
        ·
         refine ⟨_, rfl, rfl, by kernel_rfl, ?_⟩
         rintro D ⟨b24, A25, c26, b27, A28, c29, b30, A31, c32, b33, A34, c35, A36, c37, R38⟩ a z S F
         refine ⟨by kernel_rfl, ?_⟩
         exact op_loadK _ _ (some ⟨b1, 0, none⟩) 0 [.slice As x.spots.length cs, .slice Ae x.edges.length ce] F rfl (by kernel_rfl) (by kernel_rfl) (by kernel_rfl) (by simp) (cBoxK S 3 rfl 0 (by kernel_rfl)) (⟨(b24, A25, c26, b27, A28, c29, b30, A31, c32, b33, A34, c35, A36, c37, R38), rfl, (SameB.refl _ _ rfl), S⟩)
        refine ⟨?_, ?_⟩
        ·
         refine ⟨_, rfl, rfl, by kernel_rfl, ?_⟩
         rintro D ⟨b24, A25, c26, b27, A28, c29, b30, A31, c32, b33, A34, c35, A36, c37, R38⟩ a z S F
         refine ⟨by kernel_rfl, ?_⟩
         exact op_buildSliceF S 5 rfl _ 0 _ 3 1 iC_i64 ([] : List Int) F rfl (by kernel_rfl) (by kernel_rfl) (by kernel_rfl) (by unfold maxLen; omega) fun y39 z S => ⟨(y39, A25, c26, b27, A28, c29, b30, A31, c32, b33, A34, c35, A36, c37, R38), rfl, ⟨rfl, rfl, rfl, trivial, rfl, trivial, rfl, rfl, rfl, rfl, rfl, rfl, trivial, rfl, rfl, trivial, rfl, rfl, rfl, rfl, rfl, rfl, trivial, rfl, trivial, trivial, trivial⟩, S⟩
        refine ⟨?_, ?_⟩
        ·
         refine ⟨_, rfl, rfl, by kernel_rfl, ?_⟩
         rintro D ⟨b24, A25, c26, b27, A28, c29, b30, A31, c32, b33, A34, c35, A36, c37, R38⟩ a z S F
         refine ⟨by kernel_rfl, ?_⟩
         exact op_append S 5 _ _ _ 3 (.int .i64 0) 1 8 ([] : List Int) N iC_i64 An cn F iC_len_i64 (fun _ => rfl) rfl rfl (by kernel_rfl) (by kernel_rfl) rfl rfl rfl (by kernel_rfl) (by kernel_rfl) hN.none_ (src_rest S (i := 0) rfl hN.src gN) (by first | omega | (simp <;> omega)) fun y40 y41 z S => ⟨(b24, y40, y41, b27, A28, c29, b30, A31, c32, b33, A34, c35, A36, c37, R38), rfl, ⟨rfl, rfl, rfl, rfl, rfl, trivial, rfl, rfl, rfl, rfl, rfl, rfl, trivial, rfl, rfl, trivial, rfl, rfl, rfl, rfl, rfl, rfl, trivial, rfl, trivial, trivial, trivial⟩, S⟩
        refine ⟨?_, ?_⟩
        ·
         refine ⟨_, rfl, rfl, by kernel_rfl, ?_⟩
         rintro D ⟨b24, A25, c26, b27, A28, c29, b30, A31, c32, b33, A34, c35, A36, c37, R38⟩ a z S F
         refine ⟨by kernel_rfl, ?_⟩
         exact op_index _ 126 _ _ A16 ((stepsP x (N.getLastD 0)).length) c17 j 5 .i64 F rfl (by kernel_rfl) (by kernel_rfl) (by kernel_rfl) (by kernel_rfl) (get_lt hs) hn23 (⟨(b24, A25, c26, b27, A28, c29, b30, A31, c32, b33, A34, c35, A36, c37, R38), rfl, (SameB.refl _ _ rfl), S⟩)
        refine ⟨?_, ?_⟩
        ·
         refine ⟨_, rfl, rfl, by kernel_rfl, ?_⟩
         rintro D ⟨b24, A25, c26, b27, A28, c29, b30, A31, c32, b33, A34, c35, A36, c37, R38⟩ a z S F
         refine ⟨by kernel_rfl, ?_⟩
         exact op_field _ _ _ A16 (j * 5) 1 F rfl (by kernel_rfl) (by kernel_rfl) hn23 (⟨(b24, A25, c26, b27, A28, c29, b30, A31, c32, b33, A34, c35, A36, c37, R38), rfl, (SameB.refl _ _ rfl), S⟩)
        refine ⟨?_, ?_⟩
        ·
         refine ⟨_, rfl, rfl, by kernel_rfl, ?_⟩
         rintro D ⟨b24, A25, c26, b27, A28, c29, b30, A31, c32, b33, A34, c35, A36, c37, R38⟩ a z S F
         refine ⟨by kernel_rfl, ?_⟩
         exact op_load _ _ A16 (j * 5 + 1) (.int .i64 s0.to) F rfl (by kernel_rfl) (by kernel_rfl) (cRec S 4 stC_len rfl 1 hs rfl) (⟨(b24, A25, c26, b27, A28, c29, b30, A31, c32, b33, A34, c35, A36, c37, R38), rfl, (SameB.refl _ _ rfl), S⟩)
        refine ⟨?_, ?_⟩
        ·
         refine ⟨_, rfl, rfl, by kernel_rfl, ?_⟩
         rintro D ⟨b24, A25, c26, b27, A28, c29, b30, A31, c32, b33, A34, c35, A36, c37, R38⟩ a z S F
         refine ⟨by kernel_rfl, ?_⟩
         exact op_buildSliceF S 6 rfl _ 1 _ 3 1 iC_i64 ([s0.to] : List Int) F rfl (by kernel_rfl) (by kernel_rfl) (by kernel_rfl) (by unfold maxLen; omega) fun y42 z S => ⟨(b24, A25, c26, y42, A28, c29, b30, A31, c32, b33, A34, c35, A36, c37, R38), rfl, ⟨rfl, rfl, rfl, rfl, rfl, rfl, rfl, rfl, rfl, rfl, rfl, trivial, trivial, rfl, rfl, trivial, rfl, rfl, rfl, rfl, rfl, rfl, trivial, rfl, trivial, trivial, trivial⟩, S⟩
        refine ⟨?_, ?_⟩
        ·
         refine ⟨_, rfl, rfl, by kernel_rfl, ?_⟩
         rintro D ⟨b24, A25, c26, b27, A28, c29, b30, A31, c32, b33, A34, c35, A36, c37, R38⟩ a z S F
         refine ⟨by kernel_rfl, ?_⟩
         exact op_append S 5 _ _ _ 3 (.int .i64 0) 1 8 (([] : List Int) ++ N) ([s0.to] : List Int) iC_i64 (some ⟨b27, 0, none⟩) 1 F iC_len_i64 (fun _ => rfl) rfl rfl (by kernel_rfl) (by kernel_rfl) rfl rfl rfl (by kernel_rfl) (by kernel_rfl) (row_none (S.rowOf (i := 6) rfl)) (src_row (S.rowOf (i := 6) rfl)) (by first | omega | (simp <;> omega)) fun y43 y44 z S => ⟨(b24, A25, c26, b27, y43, y44, b30, A31, c32, b33, A34, c35, A36, c37, R38), rfl, ⟨rfl, rfl, rfl, rfl, rfl, rfl, rfl, rfl, rfl, rfl, rfl, rfl, trivial, rfl, rfl, trivial, rfl, rfl, rfl, rfl, rfl, rfl, trivial, rfl, trivial, trivial, trivial⟩, S⟩
        refine ⟨?_, ?_⟩
        ·
         refine ⟨_, rfl, rfl, by kernel_rfl, ?_⟩
         rintro D ⟨b24, A25, c26, b27, A28, c29, b30, A31, c32, b33, A34, c35, A36, c37, R38⟩ a z S F
         refine ⟨by kernel_rfl, ?_⟩
         exact op_buildSliceF S 7 rfl _ 0 _ 3 1 iC_i64 ([] : List Int) F rfl (by kernel_rfl) (by kernel_rfl) (by kernel_rfl) (by unfold maxLen; omega) fun y45 z S => ⟨(b24, A25, c26, b27, A28, c29, y45, A31, c32, b33, A34, c35, A36, c37, R38), rfl, ⟨rfl, rfl, rfl, rfl, rfl, rfl, rfl, rfl, rfl, rfl, rfl, rfl, rfl, trivial, rfl, trivial, rfl, rfl, rfl, rfl, rfl, rfl, trivial, rfl, trivial, trivial, trivial⟩, S⟩
        refine ⟨?_, ?_⟩
        ·
         refine ⟨_, rfl, rfl, by kernel_rfl, ?_⟩
         rintro D ⟨b24, A25, c26, b27, A28, c29, b30, A31, c32, b33, A34, c35, A36, c37, R38⟩ a z S F
         refine ⟨by kernel_rfl, ?_⟩
         exact op_append S 7 _ _ _ 3 (.int .i64 0) 1 8 ([] : List Int) E iC_i64 Am cm F iC_len_i64 (fun _ => rfl) rfl rfl (by kernel_rfl) (by kernel_rfl) rfl rfl rfl (by kernel_rfl) (by kernel_rfl) hE.none_ (src_rest S (i := 0) rfl hE.src gE) (by first | omega | (simp <;> omega)) fun y46 y47 z S => ⟨(b24, A25, c26, b27, A28, c29, b30, y46, y47, b33, A34, c35, A36, c37, R38), rfl, ⟨rfl, rfl, rfl, rfl, rfl, rfl, rfl, rfl, rfl, rfl, rfl, rfl, rfl, rfl, rfl, trivial, rfl, rfl, rfl, rfl, rfl, rfl, trivial, rfl, trivial, trivial, trivial⟩, S⟩
        refine ⟨?_, ?_⟩
        ·
         refine ⟨_, rfl, rfl, by kernel_rfl, ?_⟩
         rintro D ⟨b24, A25, c26, b27, A28, c29, b30, A31, c32, b33, A34, c35, A36, c37, R38⟩ a z S F
         refine ⟨by kernel_rfl, ?_⟩
         exact op_index _ 126 _ _ A16 ((stepsP x (N.getLastD 0)).length) c17 j 5 .i64 F rfl (by kernel_rfl) (by kernel_rfl) (by kernel_rfl) (by kernel_rfl) (get_lt hs) hn23 (⟨(b24, A25, c26, b27, A28, c29, b30, A31, c32, b33, A34, c35, A36, c37, R38), rfl, (SameB.refl _ _ rfl), S⟩)
        refine ⟨?_, ?_⟩
        ·
         refine ⟨_, rfl, rfl, by kernel_rfl, ?_⟩
         rintro D ⟨b24, A25, c26, b27, A28, c29, b30, A31, c32, b33, A34, c35, A36, c37, R38⟩ a z S F
         refine ⟨by kernel_rfl, ?_⟩
         exact op_field _ _ _ A16 (j * 5) 0 F rfl (by kernel_rfl) (by kernel_rfl) hn23 (⟨(b24, A25, c26, b27, A28, c29, b30, A31, c32, b33, A34, c35, A36, c37, R38), rfl, (SameB.refl _ _ rfl), S⟩)
        refine ⟨?_, ?_⟩
        ·
         refine ⟨_, rfl, rfl, by kernel_rfl, ?_⟩
         rintro D ⟨b24, A25, c26, b27, A28, c29, b30, A31, c32, b33, A34, c35, A36, c37, R38⟩ a z S F
         refine ⟨by kernel_rfl, ?_⟩
         exact op_load _ _ A16 (j * 5) (.int .i64 s0.edge) F rfl (by kernel_rfl) (by kernel_rfl) (cRec S 4 stC_len rfl 0 hs rfl) (⟨(b24, A25, c26, b27, A28, c29, b30, A31, c32, b33, A34, c35, A36, c37, R38), rfl, (SameB.refl _ _ rfl), S⟩)
        refine ⟨?_, ?_⟩
        ·
         refine ⟨_, rfl, rfl, by kernel_rfl, ?_⟩
         rintro D ⟨b24, A25, c26, b27, A28, c29, b30, A31, c32, b33, A34, c35, A36, c37, R38⟩ a z S F
         refine ⟨by kernel_rfl, ?_⟩
         exact op_buildSliceF S 8 rfl _ 1 _ 3 1 iC_i64 ([s0.edge] : List Int) F rfl (by kernel_rfl) (by kernel_rfl) (by kernel_rfl) (by unfold maxLen; omega) fun y48 z S => ⟨(b24, A25, c26, b27, A28, c29, b30, A31, c32, y48, A34, c35, A36, c37, R38), rfl, ⟨rfl, rfl, rfl, rfl, rfl, rfl, rfl, rfl, rfl, rfl, rfl, rfl, rfl, rfl, rfl, rfl, rfl, rfl, rfl, rfl, rfl, trivial, trivial, rfl, trivial, trivial, trivial⟩, S⟩
        refine ⟨?_, ?_⟩
        ·
         refine ⟨_, rfl, rfl, by kernel_rfl, ?_⟩
         rintro D ⟨b24, A25, c26, b27, A28, c29, b30, A31, c32, b33, A34, c35, A36, c37, R38⟩ a z S F
         refine ⟨by kernel_rfl, ?_⟩
         exact op_append S 7 _ _ _ 3 (.int .i64 0) 1 8 (([] : List Int) ++ E) ([s0.edge] : List Int) iC_i64 (some ⟨b33, 0, none⟩) 1 F iC_len_i64 (fun _ => rfl) rfl rfl (by kernel_rfl) (by kernel_rfl) rfl rfl rfl (by kernel_rfl) (by kernel_rfl) (row_none (S.rowOf (i := 8) rfl)) (src_row (S.rowOf (i := 8) rfl)) (by first | omega | (simp <;> omega)) fun y49 y50 z S => ⟨(b24, A25, c26, b27, A28, c29, b30, A31, c32, b33, y49, y50, A36, c37, R38), rfl, ⟨rfl, rfl, rfl, rfl, rfl, rfl, rfl, rfl, rfl, rfl, rfl, rfl, rfl, rfl, rfl, rfl, rfl, rfl, rfl, rfl, rfl, rfl, trivial, rfl, trivial, trivial, trivial⟩, S⟩
        refine ⟨?_, ?_⟩
        ·
         refine ⟨_, rfl, rfl, by kernel_rfl, ?_⟩
         rintro D ⟨b24, A25, c26, b27, A28, c29, b30, A31, c32, b33, A34, c35, A36, c37, R38⟩ a z S F
         refine ⟨by kernel_rfl, ?_⟩
         have S : Sat w z [rest w G, row 45 3 (.slice Ar R1.length cr) R1.length (R1.flatMap rtC), bag (R1.flatMap rtRows), box b1 25 [.slice As x.spots.length cs, .slice Ae x.edges.length ce], row 126 5 (.slice A16 ((stepsP x (N.getLastD 0)).length) c17) ((stepsP x (N.getLastD 0)).length) ((stepsP x (N.getLastD 0)).flatMap stC), row 3 1 (.slice A28 (((([] : List Int) ++ N) ++ ([s0.to] : List Int)).length) c29) (((([] : List Int) ++ N) ++ ([s0.to] : List Int)).length) (((([] : List Int) ++ N) ++ ([s0.to] : List Int)).flatMap iC_i64), row 3 1 (.slice (some ⟨b27, 0, none⟩) 1 1) 1 (([s0.to] : List Int).flatMap iC_i64), row 3 1 (.slice A34 (((([] : List Int) ++ E) ++ ([s0.edge] : List Int)).length) c35) (((([] : List Int) ++ E) ++ ([s0.edge] : List Int)).length) (((([] : List Int) ++ E) ++ ([s0.edge] : List Int)).flatMap iC_i64), row 3 1 (.slice (some ⟨b33, 0, none⟩) 1 1) 1 (([s0.edge] : List Int).flatMap iC_i64), emp] := S
         obtain ⟨G9, g9, hin9, hlt9, k9⟩ := S.frameB [1, 2] (by decide) rfl
         refine op_fn F (by kernel_rfl) (ih _ G9 As cs Ae ce x ⟨h.s.mono (src_rest S (i := 0) rfl h.s.src gs), h.e.mono (src_rest S (i := 0) rfl h.e.src ge)⟩ ok (InG.rest hin9 0 (by decide) rfl gs) (InG.rest hin9 0 (by decide) rfl ge) am hua to (N ++ [s0.to]) (E ++ [s0.edge]) A28 c29 (Recs.ofRow (S.rowOf (i := 5) rfl) (by simp; omega)) (InG.row S hin9 5 (by decide) rfl) A34 c35 (Recs.ofRow (S.rowOf (i := 7) rfl) (by simp; omega)) (InG.row S hin9 7 (by decide) rfl) (way_snoc hw (List.mem_of_getElem? hs)) (by simp; omega) (by simp; omega) (by simp) Ar cr R1 hRl g9) ?_
         rintro e z9 ⟨A54, c55, R56, rfl, hR2, g⟩
         have S : Sat w z9 [rest w G, row 45 3 (.slice A54 R56.length c55) R56.length (R56.flatMap rtC), bag (R56.flatMap rtRows), box b1 25 [.slice As x.spots.length cs, .slice Ae x.edges.length ce], row 126 5 (.slice A16 ((stepsP x (N.getLastD 0)).length) c17) ((stepsP x (N.getLastD 0)).length) ((stepsP x (N.getLastD 0)).flatMap stC), row 3 1 (.slice A28 (((([] : List Int) ++ N) ++ ([s0.to] : List Int)).length) c29) (((([] : List Int) ++ N) ++ ([s0.to] : List Int)).length) (((([] : List Int) ++ N) ++ ([s0.to] : List Int)).flatMap iC_i64), row 3 1 (.slice (some ⟨b27, 0, none⟩) 1 1) 1 (([s0.to] : List Int).flatMap iC_i64), row 3 1 (.slice A34 (((([] : List Int) ++ E) ++ ([s0.edge] : List Int)).length) c35) (((([] : List Int) ++ E) ++ ([s0.edge] : List Int)).length) (((([] : List Int) ++ E) ++ ([s0.edge] : List Int)).flatMap iC_i64), row 3 1 (.slice (some ⟨b33, 0, none⟩) 1 1) 1 (([s0.edge] : List Int).flatMap iC_i64), emp] := k9 z9 [row 45 3 (.slice A54 R56.length c55) R56.length (R56.flatMap rtC), bag (R56.flatMap rtRows)] rfl g
         clear g g9 k9 hin9 hlt9
         have S := S.shut_when (i := 9) (p := R56.map RtM.r = waysP x to am f (N ++ [s0.to]) (E ++ [s0.edge]) (R1.map RtM.r)) hR2 rfl
         exact ⟨_, rfl, (b24, A25, c26, b27, A28, c29, b30, A31, c32, b33, A34, c35, A54, c55, R56), rfl, ⟨rfl, rfl, rfl, rfl, rfl, rfl, rfl, rfl, rfl, rfl, rfl, rfl, rfl, rfl, rfl, rfl, rfl, rfl, rfl, rfl, rfl, rfl, rfl, rfl, trivial, trivial, trivial⟩, S⟩
        trivial
       ·
        rintro ⟨b24, A25, c26, b27, A28, c29, b30, A31, c32, b33, A34, c35, A36, c37, R38⟩ a z F S
        have F := F.sub (l := [(1, .int .i64 to), (2, .int .u64 am), (3, .slice An N.length cn), (4, .slice Am E.length cm), (5, .slice A36 R38.length c37), (6, .pointer (some ⟨b1, 0, none⟩)), (16, .slice A16 ((stepsP x (N.getLastD 0)).length) c17), (17, .int .i64 (j : Nat))]) ⟨by kernel_rfl, by kernel_rfl, by kernel_rfl, by kernel_rfl, by kernel_rfl, by kernel_rfl, by kernel_rfl, by kernel_rfl, trivial⟩
        have S : Sat w z [rest w G, row 45 3 (.slice A36 R38.length c37) R38.length (R38.flatMap rtC), bag (R38.flatMap rtRows), box b1 25 [.slice As x.spots.length cs, .slice Ae x.edges.length ce], row 126 5 (.slice A16 ((stepsP x (N.getLastD 0)).length) c17) ((stepsP x (N.getLastD 0)).length) ((stepsP x (N.getLastD 0)).flatMap stC), row 3 1 (.slice A28 (((([] : List Int) ++ N) ++ ([s0.to] : List Int)).length) c29) (((([] : List Int) ++ N) ++ ([s0.to] : List Int)).length) (((([] : List Int) ++ N) ++ ([s0.to] : List Int)).flatMap iC_i64), row 3 1 (.slice (some ⟨b27, 0, none⟩) 1 1) 1 (([s0.to] : List Int).flatMap iC_i64), row 3 1 (.slice A34 (((([] : List Int) ++ E) ++ ([s0.edge] : List Int)).length) c35) (((([] : List Int) ++ E) ++ ([s0.edge] : List Int)).length) (((([] : List Int) ++ E) ++ ([s0.edge] : List Int)).flatMap iC_i64), row 3 1 (.slice (some ⟨b33, 0, none⟩) 1 1) 1 (([s0.edge] : List Int).flatMap iC_i64), when (R38.map RtM.r = waysP x to am f (N ++ [s0.to]) (E ++ [s0.edge]) (R1.map RtM.r)) emp] := S
        obtain ⟨hR2, S⟩ := S.open_when (i := 9) rfl
        have S : Sat w z [rest w G, row 45 3 (.slice A36 R38.length c37) R38.length (R38.flatMap rtC), bag (R38.flatMap rtRows), box b1 25 [.slice As x.spots.length cs, .slice Ae x.edges.length ce], row 126 5 (.slice A16 ((stepsP x (N.getLastD 0)).length) c17) ((stepsP x (N.getLastD 0)).length) ((stepsP x (N.getLastD 0)).flatMap stC), row 3 1 (.slice A28 (((([] : List Int) ++ N) ++ ([s0.to] : List Int)).length) c29) (((([] : List Int) ++ N) ++ ([s0.to] : List Int)).length) (((([] : List Int) ++ N) ++ ([s0.to] : List Int)).flatMap iC_i64), row 3 1 (.slice (some ⟨b27, 0, none⟩) 1 1) 1 (([s0.to] : List Int).flatMap iC_i64), row 3 1 (.slice A34 (((([] : List Int) ++ E) ++ ([s0.edge] : List Int)).length) c35) (((([] : List Int) ++ E) ++ ([s0.edge] : List Int)).length) (((([] : List Int) ++ E) ++ ([s0.edge] : List Int)).flatMap iC_i64), row 3 1 (.slice (some ⟨b33, 0, none⟩) 1 1) 1 (([s0.edge] : List Int).flatMap iC_i64), emp] := S
        refine inb_n ?_
        refine then_n ?_
        refine wp_region_list ?_
        refine l_pure 1 (fun L => (56, .int .i64 (j : Nat)) :: L) F (by kernel_rfl) fun a F => ?_
        refine l_do F rfl rfl (op_pure F (v0 := .int .i64 (IntKind.wrap .i64 ((j : Nat) + 1))) (v := .int .i64 (j + 1 : Nat)) (by kernel_rfl) (wrn_i64 (by omega) (by omega) (by omega)) fun a F => ?_)
        refine l_pure 1 (fun L => (17, .int .i64 (j + 1 : Nat)) :: L) F (by kernel_rfl) fun a F => ?_
        refine l_then ?_
        have hmap : R38.map RtM.r = waysJ x to am f N E (R.map RtM.r) (j + 1) := by rw [hR2, hRj]; exact (waysJ_go hs (of_decide_eq_false hb22)).symm
        have hlen : R38.length ≤ 32 := by
          have h9 := ways_le (x := x) (to := to) (am := am) (f := f) (N := N ++ [s0.to]) (E := E ++ [s0.edge]) (R := R1.map RtM.r) (by rw [List.length_map]; exact hRl)
          rw [← hR2, List.length_map] at h9
          exact h9
        exact ⟨_, (by omega), j + 1, A36, c37, R38, rfl, (by omega), hmap, hlen, F.sub ⟨by kernel_rfl, by kernel_rfl, by kernel_rfl, by kernel_rfl, by kernel_rfl, by kernel_rfl, by kernel_rfl, by kernel_rfl, trivial⟩, (S.pick [0, 1, 2, 3, 4] (by decide))⟩
      | true =>
       refine l_do F rfl rfl (op_fn F (by kernel_rfl) (rin_any _ An cn N s0.to (hN.mono (src_rest S (i := 0) rfl hN.src gN)) (by omega)) ?_)
       rintro e z ⟨rfl, hb⟩
       have S := S.grow hb
       refine ⟨_, rfl, ?_⟩
       rw [hb22]
       intro a F
       refine l_pure 1 (fun L => (65, .bool false) :: L) F (by kernel_rfl) fun a F => ?_
       refine l_then ?_
       refine c_f F rfl ?_
       refine wp_skip ?_
       refine inb_n ?_
       refine then_n ?_
       refine wp_region_list ?_
       refine l_pure 1 (fun L => (56, .int .i64 (j : Nat)) :: L) F (by kernel_rfl) fun a F => ?_
       refine l_do F rfl rfl (op_pure F (v0 := .int .i64 (IntKind.wrap .i64 ((j : Nat) + 1))) (v := .int .i64 (j + 1 : Nat)) (by kernel_rfl) (wrn_i64 (by omega) (by omega) (by omega)) fun a F => ?_)
       refine l_pure 1 (fun L => (17, .int .i64 (j + 1 : Nat)) :: L) F (by kernel_rfl) fun a F => ?_
       refine l_then ?_
       exact ⟨_, (by omega), j + 1, Ar, cr, R1, rfl, (by omega), (by rw [hRj]; exact (waysJ_in hs (of_decide_eq_true hb22)).symm), hRl, F.sub ⟨by kernel_rfl, by kernel_rfl, by kernel_rfl, by kernel_rfl, by kernel_rfl, by kernel_rfl, by kernel_rfl, by kernel_rfl, trivial⟩, S⟩
     ·
      skip
      refine l_do F rfl rfl (op_pure F (v0 := .bool (decide (((j : Nat) : Int) < (((stepsP x (N.getLastD 0)).length : Nat) : Int)))) (v := .bool false) (by kernel_rfl) (lssF ht21) fun a F => ?_)
      refine l_then ?_
      refine c_f F rfl ?_
      refine wp_exit ?_
      refine then_x ?_
      refine then_x ?_
      refine inb_x ?_
      refine then_n ?_
      refine s_reg ?_
      refine l_pure 2 (fun L => (12, .slice Ar R1.length cr) :: (91, .slice Ar R1.length cr) :: L) F (by kernel_rfl) fun a F => ?_
      refine l_then ?_
      refine wp_ret ?_
      exact fin F [.tmp 12] [.slice Ar R1.length cr] rfl ⟨by kernel_rfl, trivial⟩ (.slice Ar R1.length cr) rfl ⟨Ar, cr, R1, rfl, (by rw [waysJ_end (by rw [List.length_map]; omega) hto (by omega), hRj, show j = (stepsP x (N.getLastD 0)).length from by omega]), S.pick [1, 2, 0] (by decide)⟩
theorem ways_any : ∀ f, WaysOk f
  | 0 => by
    intro w G As cs Ae ce x h ok gs ge am hua to N E An cn hN gN Am cm hE gE hw hl hf8 hne Ar cr R hR hS
    omega
  | f + 1 => ways_step (ways_any f)
set_option maxRecDepth 100000 in
set_option maxHeartbeats 4000000 in
theorem rright_any (w : World) (As : Option Addr) (cs : Nat) (Ae : Option Addr) (ce : Nat) (x : Wb) (h : WebAt w As cs Ae ce x) (ok : x.Ok) (from_ to am : Int) (hs1 : x.spots.length ≤ 1000) : Calls Try.prog 58 #[.agg #[.slice As x.spots.length cs, .slice Ae x.edges.length ce], .int .i64 from_, .int .i64 to, .int .u64 am] w fun e w' => e = .returned (.int .i64 (rightP x from_ to am)) ∧ Below w.heap.size w w' := by
 refine enter 44 Try.func58 rfl rfl rfl fun a F => ?_
 have S := Sat.pushRest w
 refine s_reg ?_
 refine l_do F rfl rfl (op_box S _ _ (.agg #[.slice As x.spots.length cs, .slice Ae x.edges.length ce]) F rfl (by kernel_rfl) fun b1 z S a F => ?_)
 refine l_pure 1 (fun L => (8, .int .i64 0) :: L) F (by kernel_rfl) fun a F => ?_
 refine l_then ?_
 refine s_reg ?_
 refine l_do F rfl rfl (op_loadK _ _ (some ⟨b1, 0, none⟩) 0 [.slice As x.spots.length cs, .slice Ae x.edges.length ce] F rfl (by kernel_rfl) (by kernel_rfl) (by kernel_rfl) (by simp) (cBoxK S 1 rfl 0 (by kernel_rfl)) (fun a F => ?_))
 refine l_do F rfl rfl (op_fn F (by kernel_rfl) (rcheck_any _ As cs Ae ce x (h.move S rfl) ok) ?_)
 rintro e z ⟨rfl, hb⟩
 have S := S.grow hb
 refine ⟨_, rfl, ?_⟩
 intro a F
 refine l_pure 1 (fun L => (9, .int .i64 (chkP x)) :: L) F (by kernel_rfl) fun a F => ?_
 refine l_then ?_
 refine wp_seq ?_
 refine s_reg ?_
 refine l_pure 1 (fun L => (13, .int .i64 (chkP x)) :: L) F (by kernel_rfl) fun a F => ?_
 by_cases ht2 : (chkP x : Int) = (0 : Int)
 ·
  skip
  have hc := ht2
  refine l_do F rfl rfl (op_pure F (v0 := .bool ((chkP x : Int) != (0 : Int))) (v := .bool false) (by kernel_rfl) (neqF ht2) fun a F => ?_)
  refine l_then ?_
  refine c_f F rfl ?_
  refine wp_skip ?_
  refine then_n ?_
  refine s_reg ?_
  refine l_pure 1 (fun L => (16, .pointer (some ⟨b1, 0, none⟩)) :: L) F (by kernel_rfl) fun a F => ?_
  refine l_do F rfl rfl (op_load _ _ (some ⟨b1, 0, none⟩) 0 (.slice As x.spots.length cs) F rfl (by kernel_rfl) (by kernel_rfl) (cBox S 1 rfl (j := 0) rfl) (fun a F => ?_))
  refine l_pure 2 (fun L => (10, .int .i64 (x.spots.length : Nat)) :: (18, .int .i64 (x.spots.length : Nat)) :: L) F (by kernel_rfl) fun a F => ?_
  refine l_then ?_
  refine wp_seq ?_
  refine s_reg ?_
  refine l_pure 1 (fun L => (19, .int .i64 from_) :: L) F (by kernel_rfl) fun a F => ?_
  by_cases ht3 : (from_ : Int) < (0 : Int)
  ·
   skip
   refine l_do F rfl rfl (op_pure F (v0 := .bool (decide ((from_ : Int) < (0 : Int)))) (v := .bool true) (by kernel_rfl) (lssT ht3) fun a F => ?_)
   refine l_pure 23 (fun L => (43, .bool true) :: (42, undef) :: (41, undef) :: (40, .bool true) :: (39, .bool true) :: (38, undef) :: (37, undef) :: (36, undef) :: (35, .bool true) :: (34, .bool true) :: (33, undef) :: (32, undef) :: (31, undef) :: (30, .bool true) :: (29, .bool true) :: (28, undef) :: (27, undef) :: (26, .bool true) :: (25, .bool true) :: (24, undef) :: (23, undef) :: (22, undef) :: (21, .bool true) :: L) F (by kernel_rfl) fun a F => ?_
   refine l_then ?_
   refine c_t F rfl ?_
   refine s_reg ?_
   refine l_pure 1 (fun L => (8, .int .i64 1) :: L) F (by kernel_rfl) fun a F => ?_
   refine l_then ?_
   refine wp_ret ?_
   refine then_r (?_)
   exact fin F [.tmp 8] [.int .i64 1] rfl ⟨by kernel_rfl, trivial⟩ (.int .i64 1) rfl ⟨by rw [right_bad hc (by omega)], S.below (i := 0) rfl⟩
  ·
   skip
   refine l_do F rfl rfl (op_pure F (v0 := .bool (decide ((from_ : Int) < (0 : Int)))) (v := .bool false) (by kernel_rfl) (lssF ht3) fun a F => ?_)
   refine l_pure 3 (fun L => (23, .int .i64 (x.spots.length : Nat)) :: (22, .int .i64 from_) :: (21, .bool false) :: L) F (by kernel_rfl) fun a F => ?_
   by_cases ht4 : ((x.spots.length : Nat) : Int) ≤ (from_ : Int)
   ·
    skip
    refine l_do F rfl rfl (op_pure F (v0 := .bool (decide ((from_ : Int) ≥ ((x.spots.length : Nat) : Int)))) (v := .bool true) (by kernel_rfl) (geqT ht4) fun a F => ?_)
    refine l_pure 19 (fun L => (43, .bool true) :: (42, undef) :: (41, undef) :: (40, .bool true) :: (39, .bool true) :: (38, undef) :: (37, undef) :: (36, undef) :: (35, .bool true) :: (34, .bool true) :: (33, undef) :: (32, undef) :: (31, undef) :: (30, .bool true) :: (29, .bool true) :: (28, undef) :: (27, undef) :: (26, .bool true) :: (25, .bool true) :: L) F (by kernel_rfl) fun a F => ?_
    refine l_then ?_
    refine c_t F rfl ?_
    refine s_reg ?_
    refine l_pure 1 (fun L => (8, .int .i64 1) :: L) F (by kernel_rfl) fun a F => ?_
    refine l_then ?_
    refine wp_ret ?_
    refine then_r (?_)
    exact fin F [.tmp 8] [.int .i64 1] rfl ⟨by kernel_rfl, trivial⟩ (.int .i64 1) rfl ⟨by rw [right_bad hc (by omega)], S.below (i := 0) rfl⟩
   ·
    skip
    refine l_do F rfl rfl (op_pure F (v0 := .bool (decide ((from_ : Int) ≥ ((x.spots.length : Nat) : Int)))) (v := .bool false) (by kernel_rfl) (geqF ht4) fun a F => ?_)
    refine l_pure 3 (fun L => (27, .int .i64 to) :: (26, .bool false) :: (25, .bool false) :: L) F (by kernel_rfl) fun a F => ?_
    by_cases ht5 : (to : Int) < (0 : Int)
    ·
     skip
     refine l_do F rfl rfl (op_pure F (v0 := .bool (decide ((to : Int) < (0 : Int)))) (v := .bool true) (by kernel_rfl) (lssT ht5) fun a F => ?_)
     refine l_pure 15 (fun L => (43, .bool true) :: (42, undef) :: (41, undef) :: (40, .bool true) :: (39, .bool true) :: (38, undef) :: (37, undef) :: (36, undef) :: (35, .bool true) :: (34, .bool true) :: (33, undef) :: (32, undef) :: (31, undef) :: (30, .bool true) :: (29, .bool true) :: L) F (by kernel_rfl) fun a F => ?_
     refine l_then ?_
     refine c_t F rfl ?_
     refine s_reg ?_
     refine l_pure 1 (fun L => (8, .int .i64 1) :: L) F (by kernel_rfl) fun a F => ?_
     refine l_then ?_
     refine wp_ret ?_
     refine then_r (?_)
     exact fin F [.tmp 8] [.int .i64 1] rfl ⟨by kernel_rfl, trivial⟩ (.int .i64 1) rfl ⟨by rw [right_bad hc (by omega)], S.below (i := 0) rfl⟩
    ·
     skip
     refine l_do F rfl rfl (op_pure F (v0 := .bool (decide ((to : Int) < (0 : Int)))) (v := .bool false) (by kernel_rfl) (lssF ht5) fun a F => ?_)
     refine l_pure 4 (fun L => (32, .int .i64 (x.spots.length : Nat)) :: (31, .int .i64 to) :: (30, .bool false) :: (29, .bool false) :: L) F (by kernel_rfl) fun a F => ?_
     by_cases ht6 : ((x.spots.length : Nat) : Int) ≤ (to : Int)
     ·
      skip
      refine l_do F rfl rfl (op_pure F (v0 := .bool (decide ((to : Int) ≥ ((x.spots.length : Nat) : Int)))) (v := .bool true) (by kernel_rfl) (geqT ht6) fun a F => ?_)
      refine l_pure 10 (fun L => (43, .bool true) :: (42, undef) :: (41, undef) :: (40, .bool true) :: (39, .bool true) :: (38, undef) :: (37, undef) :: (36, undef) :: (35, .bool true) :: (34, .bool true) :: L) F (by kernel_rfl) fun a F => ?_
      refine l_then ?_
      refine c_t F rfl ?_
      refine s_reg ?_
      refine l_pure 1 (fun L => (8, .int .i64 1) :: L) F (by kernel_rfl) fun a F => ?_
      refine l_then ?_
      refine wp_ret ?_
      refine then_r (?_)
      exact fin F [.tmp 8] [.int .i64 1] rfl ⟨by kernel_rfl, trivial⟩ (.int .i64 1) rfl ⟨by rw [right_bad hc (by omega)], S.below (i := 0) rfl⟩
     ·
      skip
      refine l_do F rfl rfl (op_pure F (v0 := .bool (decide ((to : Int) ≥ ((x.spots.length : Nat) : Int)))) (v := .bool false) (by kernel_rfl) (geqF ht6) fun a F => ?_)
      refine l_pure 4 (fun L => (37, .int .i64 to) :: (36, .int .i64 from_) :: (35, .bool false) :: (34, .bool false) :: L) F (by kernel_rfl) fun a F => ?_
      by_cases ht7 : (from_ : Int) = (to : Int)
      ·
       skip
       refine l_do F rfl rfl (op_pure F (v0 := .bool ((from_ : Int) == (to : Int))) (v := .bool true) (by kernel_rfl) (eqlT ht7) fun a F => ?_)
       refine l_pure 5 (fun L => (43, .bool true) :: (42, undef) :: (41, undef) :: (40, .bool true) :: (39, .bool true) :: L) F (by kernel_rfl) fun a F => ?_
       refine l_then ?_
       refine c_t F rfl ?_
       refine s_reg ?_
       refine l_pure 1 (fun L => (8, .int .i64 1) :: L) F (by kernel_rfl) fun a F => ?_
       refine l_then ?_
       refine wp_ret ?_
       refine then_r (?_)
       exact fin F [.tmp 8] [.int .i64 1] rfl ⟨by kernel_rfl, trivial⟩ (.int .i64 1) rfl ⟨by rw [right_bad hc (by omega)], S.below (i := 0) rfl⟩
      ·
       skip
       refine l_do F rfl rfl (op_pure F (v0 := .bool ((from_ : Int) == (to : Int))) (v := .bool false) (by kernel_rfl) (eqlF ht7) fun a F => ?_)
       refine l_pure 3 (fun L => (41, .int .u64 am) :: (40, .bool false) :: (39, .bool false) :: L) F (by kernel_rfl) fun a F => ?_
       by_cases ht8 : (am : Int) = (0 : Int)
       ·
        skip
        refine l_do F rfl rfl (op_pure F (v0 := .bool ((am : Int) == (0 : Int))) (v := .bool true) (by kernel_rfl) (eqlT ht8) fun a F => ?_)
        refine l_pure 1 (fun L => (43, .bool true) :: L) F (by kernel_rfl) fun a F => ?_
        refine l_then ?_
        refine c_t F rfl ?_
        refine s_reg ?_
        refine l_pure 1 (fun L => (8, .int .i64 1) :: L) F (by kernel_rfl) fun a F => ?_
        refine l_then ?_
        refine wp_ret ?_
        refine then_r (?_)
        exact fin F [.tmp 8] [.int .i64 1] rfl ⟨by kernel_rfl, trivial⟩ (.int .i64 1) rfl ⟨by rw [right_bad hc (by omega)], S.below (i := 0) rfl⟩
       ·
        skip
        refine l_do F rfl rfl (op_pure F (v0 := .bool ((am : Int) == (0 : Int))) (v := .bool false) (by kernel_rfl) (eqlF ht8) fun a F => ?_)
        refine l_pure 1 (fun L => (43, .bool false) :: L) F (by kernel_rfl) fun a F => ?_
        refine l_then ?_
        refine c_f F rfl ?_
        refine wp_skip ?_
        refine then_n ?_
        refine s_reg ?_
        refine l_pure 1 (fun L => (8, .int .i64 0) :: L) F (by kernel_rfl) fun a F => ?_
        refine l_then ?_
        refine wp_ret ?_
        exact fin F [.tmp 8] [.int .i64 0] rfl ⟨by kernel_rfl, trivial⟩ (.int .i64 0) rfl ⟨by rw [right_ok hc (by omega)], S.below (i := 0) rfl⟩
 ·
  skip
  have hc := ht2
  refine l_do F rfl rfl (op_pure F (v0 := .bool ((chkP x : Int) != (0 : Int))) (v := .bool true) (by kernel_rfl) (neqT ht2) fun a F => ?_)
  refine l_then ?_
  refine c_t F rfl ?_
  refine s_reg ?_
  refine l_pure 2 (fun L => (8, .int .i64 (chkP x)) :: (15, .int .i64 (chkP x)) :: L) F (by kernel_rfl) fun a F => ?_
  refine l_then ?_
  refine wp_ret ?_
  refine then_r (?_)
  exact fin F [.tmp 8] [.int .i64 (chkP x)] rfl ⟨by kernel_rfl, trivial⟩ (.int .i64 (chkP x)) rfl ⟨by rw [right_chk hc], S.below (i := 0) rfl⟩
set_option maxRecDepth 100000 in
set_option maxHeartbeats 4000000 in
theorem rall8_any (w : World) (As : Option Addr) (cs : Nat) (Ae : Option Addr) (ce : Nat) (x : Wb) (h : WebAt w As cs Ae ce x) (ok : x.Ok) (from_ to am : Int) (hua : U64 am) (hs1 : x.spots.length ≤ 1000) : Calls Try.prog 18 #[.agg #[.slice As x.spots.length cs, .slice Ae x.edges.length ce], .int .i64 from_, .int .i64 to, .int .u64 am] w fun e w' => ∃ (A' : Option Addr) (c' : Nat) (R' : List RtM), e = .returned (.tuple #[.slice A' R'.length c', .int .i64 (rightP x from_ to am)]) ∧ R'.map RtM.r = allRt x from_ to am ∧ Sat w w' [rest w (· < w.heap.size), row 45 3 (.slice A' R'.length c') R'.length (R'.flatMap rtC), bag (R'.flatMap rtRows)] := by
 refine enter 25 Try.func18 rfl rfl rfl fun a F => ?_
 have S := Sat.pushRest w
 refine s_reg ?_
 refine l_do F rfl rfl (op_box S _ _ (.agg #[.slice As x.spots.length cs, .slice Ae x.edges.length ce]) F rfl (by kernel_rfl) fun b1 z S a F => ?_)
 refine l_pure 2 (fun L => (9, .int .i64 0) :: (8, .slice none 0 0) :: L) F (by kernel_rfl) fun a F => ?_
 refine l_then ?_
 refine s_reg ?_
 refine l_do F rfl rfl (op_loadK _ _ (some ⟨b1, 0, none⟩) 0 [.slice As x.spots.length cs, .slice Ae x.edges.length ce] F rfl (by kernel_rfl) (by kernel_rfl) (by kernel_rfl) (by simp) (cBoxK S 1 rfl 0 (by kernel_rfl)) (fun a F => ?_))
 refine l_pure 3 (fun L => (14, .int .u64 am) :: (13, .int .i64 to) :: (12, .int .i64 from_) :: L) F (by kernel_rfl) fun a F => ?_
 refine l_do F rfl rfl (op_fn F (by kernel_rfl) (rright_any _ As cs Ae ce x (h.move S rfl) ok from_ to am hs1) ?_)
 rintro e z ⟨rfl, hb⟩
 have S := S.grow hb
 refine ⟨_, rfl, ?_⟩
 intro a F
 refine l_pure 1 (fun L => (10, .int .i64 (rightP x from_ to am)) :: L) F (by kernel_rfl) fun a F => ?_
 refine l_then ?_
 refine wp_seq ?_
 refine s_reg ?_
 refine l_pure 1 (fun L => (16, .int .i64 (rightP x from_ to am)) :: L) F (by kernel_rfl) fun a F => ?_
 by_cases ht2 : (rightP x from_ to am : Int) = (0 : Int)
 ·
  skip
  have hr := ht2
  refine l_do F rfl rfl (op_pure F (v0 := .bool ((rightP x from_ to am : Int) != (0 : Int))) (v := .bool false) (by kernel_rfl) (neqF ht2) fun a F => ?_)
  refine l_then ?_
  refine c_f F rfl ?_
  refine wp_skip ?_
  refine then_n ?_
  refine s_reg ?_
  refine l_do F rfl rfl (op_loadK _ _ (some ⟨b1, 0, none⟩) 0 [.slice As x.spots.length cs, .slice Ae x.edges.length ce] F rfl (by kernel_rfl) (by kernel_rfl) (by kernel_rfl) (by simp) (cBoxK S 1 rfl 0 (by kernel_rfl)) (fun a F => ?_))
  refine l_pure 3 (fun L => (22, .int .i64 from_) :: (21, .int .u64 am) :: (20, .int .i64 to) :: L) F (by kernel_rfl) fun a F => ?_
  refine l_do F rfl rfl (op_buildSlice S _ 1 _ 3 1 iC_i64 ([from_] : List Int) F rfl (by kernel_rfl) (by kernel_rfl) (by kernel_rfl) (by unfold maxLen; omega) fun b3 z S a F => ?_)
  have S := S.nilRow 3 1
  have S := S.nilRow 45 3
  have S := S.pushBag
  obtain ⟨G9, g9, hin9, hlt9, k9⟩ := S.frameB [4, 5] (by decide) rfl
  refine l_do F rfl rfl (op_fn F (by kernel_rfl) (ways_any 8 _ G9 As cs Ae ce x (h.move S rfl) ok (InG.rest hin9 0 (by decide) rfl (InG.all h.s.src)) (InG.rest hin9 0 (by decide) rfl (InG.all h.e.src)) am hua to [from_] [] (some ⟨b3, 0, none⟩) 1 (Recs.ofRow (S.rowOf (i := 2) rfl) (by simp)) (InG.row S hin9 2 (by decide) rfl) none 0 (Recs.ofRow (S.rowOf (i := 3) rfl) (by simp)) (InG.row S hin9 3 (by decide) rfl) (way_one x from_) (by simp) rfl (fun _ => by have := (right_zero hr).2; simp; omega) none 0 [] (by decide) g9) ?_)
  rintro e z9 ⟨A3, c3, R2, rfl, hR2, g⟩
  have S : Sat w z9 [rest w (· < w.heap.size), box b1 25 [.slice As x.spots.length cs, .slice Ae x.edges.length ce], row 3 1 (.slice (some ⟨b3, 0, none⟩) 1 1) 1 (([from_] : List Int).flatMap iC_i64), row 3 1 (.slice none 0 0) 0 (([] : List Int).flatMap iC_i64), row 45 3 (.slice A3 R2.length c3) R2.length (R2.flatMap rtC), bag (R2.flatMap rtRows)] := k9 z9 [row 45 3 (.slice A3 R2.length c3) R2.length (R2.flatMap rtC), bag (R2.flatMap rtRows)] rfl g
  clear g g9 k9 hin9 hlt9
  refine ⟨_, rfl, ?_⟩
  intro a F
  refine l_pure 2 (fun L => (9, .int .i64 0) :: (8, .slice A3 R2.length c3) :: L) F (by kernel_rfl) fun a F => ?_
  refine l_then ?_
  refine wp_ret ?_
  exact fin F [.tmp 8, .tmp 9] [.slice A3 R2.length c3, .int .i64 0] rfl ⟨by kernel_rfl, by kernel_rfl, trivial⟩ (.tuple #[.slice A3 R2.length c3, .int .i64 0]) rfl ⟨A3, c3, R2, by rw [hr], by rw [hR2]; exact all_ok hr, S.pick [0, 4, 5] (by decide)⟩
 ·
  skip
  have hr := ht2
  refine l_do F rfl rfl (op_pure F (v0 := .bool ((rightP x from_ to am : Int) != (0 : Int))) (v := .bool true) (by kernel_rfl) (neqT ht2) fun a F => ?_)
  refine l_then ?_
  refine c_t F rfl ?_
  refine s_reg ?_
  refine l_pure 3 (fun L => (9, .int .i64 (rightP x from_ to am)) :: (8, .slice none 0 0) :: (18, .int .i64 (rightP x from_ to am)) :: L) F (by kernel_rfl) fun a F => ?_
  refine l_then ?_
  refine wp_ret ?_
  refine then_r (?_)
  exact fin F [.tmp 8, .tmp 9] [.slice none 0 0, .int .i64 (rightP x from_ to am)] rfl ⟨by kernel_rfl, by kernel_rfl, trivial⟩ (.tuple #[.slice none 0 0, .int .i64 (rightP x from_ to am)]) rfl ⟨none, 0, [], rfl, (all_none hr).symm, ((S.nilRow 45 3).pushBag).pick [0, 2, 3] (by decide)⟩
end Go.Proofs.Ytcfpbemoocegfaa
