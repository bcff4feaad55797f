/- Walks over routes: the seeker. -/
import Derived.Test.YtcfpbemoocegfaaRoutes
namespace Go.Proofs.Ytcfpbemoocegfaa
set_option linter.unusedVariables false
set_option linter.unusedSimpArgs false
set_option linter.unnecessarySimpa false
open Go Go.RowKit

set_option maxRecDepth 100000 in
set_option maxHeartbeats 4000000 in
theorem found_any (w : World) (G : Nat → Prop) (bo bw ba : Nat) (As : Option Addr) (cs : Nat) (Ae : Option Addr) (ce : Nat) (x : Wb) (h : WebAt w As cs Ae ce x) (ok : x.Ok) (gs : InG G As (x.spots.flatMap spC)) (ge : InG G Ae (x.edges.flatMap edC)) (am : Int) (hua : U64 am) (An : Option Addr) (cn : Nat) (N : List Int) (hN : Recs 1 iC_i64 w An cn N) (gN : InG G An (N.flatMap iC_i64)) (Am : Option Addr) (cm : Nat) (E : List Int) (hE : Recs 1 iC_i64 w Am cm E) (gE : InG G Am (E.flatMap iC_i64)) (hw : WayOk x N E) (hl : E.length ≤ 7) (Ar : Option Addr) (cr : Nat) (R : List RtM) (hR : R.length ≤ 40) (hS : Sat w w [box bo 34 [.slice Ar R.length cr], row 47 3 (.slice Ar R.length cr) R.length (R.flatMap rtC), bag (R.flatMap rtRows), box bw 32 [.slice As x.spots.length cs, .slice Ae x.edges.length ce], box ba 26 [.int .u64 am], rest w G]) : Calls Try.prog 55 #[.slice An N.length cn, .slice Am E.length cm, .pointer (some ⟨bw, 0, none⟩), .pointer (some ⟨ba, 0, none⟩), .pointer (some ⟨bo, 0, none⟩)] w fun e w' => ∃ (A' : Option Addr) (c' : Nat) (R' : List RtM) (on : Bool), e = .returned (.bool on) ∧ on = decide (R'.length < 32) ∧ R'.map RtM.r = nextR x N E am (R.map RtM.r) ∧ Sat w w' [box bo 34 [.slice A' R'.length c'], row 47 3 (.slice A' R'.length c') R'.length (R'.flatMap rtC), bag (R'.flatMap rtRows), box bw 32 [.slice As x.spots.length cs, .slice Ae x.edges.length ce], box ba 26 [.int .u64 am], rest w G] := by
 refine enter 26 Try.func55 rfl rfl rfl fun a F => ?_
 have S : Sat w w [rest w G, box bo 34 [.slice Ar R.length cr], row 47 3 (.slice Ar R.length cr) R.length (R.flatMap rtC), bag (R.flatMap rtRows), box bw 32 [.slice As x.spots.length cs, .slice Ae x.edges.length ce], box ba 26 [.int .u64 am]] := hS.pick [5, 0, 1, 2, 3, 4] (by decide)
 refine s_reg ?_
 refine l_pure 1 (fun L => (7, .bool false) :: L) F (by kernel_rfl) fun a F => ?_
 refine l_then ?_
 refine wp_seq ?_
 refine s_reg ?_
 refine l_do F rfl rfl (op_loadK _ _ (some ⟨bw, 0, none⟩) 0 [.slice As x.spots.length cs, .slice Ae x.edges.length ce] F rfl (by kernel_rfl) (by kernel_rfl) (by kernel_rfl) (by simp) (cBoxK S 4 rfl 0 (by kernel_rfl)) (fun a F => ?_))
 refine l_pure 2 (fun L => (13, .slice Am E.length cm) :: (12, .slice An N.length cn) :: L) F (by kernel_rfl) fun a F => ?_
 refine l_do F rfl rfl (op_load _ _ (some ⟨ba, 0, none⟩) 0 (.int .u64 am) F rfl (by kernel_rfl) (by kernel_rfl) (cBox S 5 rfl (j := 0) rfl) (fun a F => ?_))
 rcases fill_cases x N E am with hf | ⟨r, hf⟩
 ·
  skip
  refine l_do F rfl rfl (op_fn F (by kernel_rfl) (fill_not _ As cs Ae ce x ⟨h.s.mono (src_rest S (i := 0) rfl h.s.src gs), h.e.mono (src_rest S (i := 0) rfl h.e.src ge)⟩ ok An cn N (hN.mono (src_rest S (i := 0) rfl hN.src gN)) Am cm E (hE.mono (src_rest S (i := 0) rfl hE.src gE)) am hua hw hl hf) ?_)
  rintro e z ⟨rfl, hb⟩
  have S := S.grow hb
  refine ⟨_, rfl, ?_⟩
  intro a F
  refine l_pure 3 (fun L => (17, .bool false) :: (16, .agg #[.slice none 0 0, .slice none 0 0, .slice none 0 0]) :: (10, .tuple #[.agg #[.slice none 0 0, .slice none 0 0, .slice none 0 0], .bool false]) :: L) F (by kernel_rfl) fun a F => ?_
  refine l_do F rfl rfl (op_alloc S _ (.agg #[.slice none 0 0, .slice none 0 0, .slice none 0 0]) rfl (by kernel_rfl) fun b1 z S a F => ?_)
  refine l_do F rfl rfl (op_storeB S 6 _ _ _ b1 0 (.agg #[.slice none 0 0, .slice none 0 0, .slice none 0 0]) F rfl rfl (by kernel_rfl) (by kernel_rfl) (by kernel_rfl) (by kernel_rfl) (by kernel_rfl) fun z S a F => ?_)
  refine l_pure 1 (fun L => (9, .bool false) :: L) F (by kernel_rfl) fun a F => ?_
  refine l_then ?_
  refine s_reg ?_
  refine l_pure 1 (fun L => (18, .bool false) :: L) F (by kernel_rfl) fun a F => ?_
  refine l_then ?_
  refine c_f F rfl ?_
  refine wp_skip ?_
  refine then_n ?_
  refine s_reg ?_
  refine l_do F rfl rfl (op_load _ _ (some ⟨bo, 0, none⟩) 0 (.slice Ar R.length cr) F rfl (by kernel_rfl) (by kernel_rfl) (cBox S 1 rfl (j := 0) rfl) (fun a F => ?_))
  refine l_pure 1 (fun L => (24, .int .i64 (R.length : Nat)) :: L) F (by kernel_rfl) fun a F => ?_
  by_cases ht2 : ((R.length : Nat) : Int) < (32 : Int)
  ·
   skip
   refine l_do F rfl rfl (op_pure F (v0 := .bool (decide (((R.length : Nat) : Int) < (32 : Int)))) (v := .bool true) (by kernel_rfl) (lssT ht2) fun a F => ?_)
   refine l_pure 1 (fun L => (7, .bool true) :: L) F (by kernel_rfl) fun a F => ?_
   refine l_then ?_
   refine wp_ret ?_
   exact fin F [.tmp 7] [.bool true] rfl ⟨by kernel_rfl, trivial⟩ (.bool true) rfl ⟨Ar, cr, R, true, rfl, (decide_eq_true (by omega)).symm, (nextR_none hf).symm, S.pick [1, 2, 3, 4, 5, 0] (by decide)⟩
  ·
   skip
   refine l_do F rfl rfl (op_pure F (v0 := .bool (decide (((R.length : Nat) : Int) < (32 : Int)))) (v := .bool false) (by kernel_rfl) (lssF ht2) fun a F => ?_)
   refine l_pure 1 (fun L => (7, .bool false) :: L) F (by kernel_rfl) fun a F => ?_
   refine l_then ?_
   refine wp_ret ?_
   exact fin F [.tmp 7] [.bool false] rfl ⟨by kernel_rfl, trivial⟩ (.bool false) rfl ⟨Ar, cr, R, false, rfl, (decide_eq_false (by omega)).symm, (nextR_none hf).symm, S.pick [1, 2, 3, 4, 5, 0] (by decide)⟩
 ·
  skip
  refine l_do F rfl rfl (op_fn F (by kernel_rfl) (fill_got _ As cs Ae ce x ⟨h.s.mono (src_rest S (i := 0) rfl h.s.src gs), h.e.mono (src_rest S (i := 0) rfl h.e.src ge)⟩ ok An cn N (hN.mono (src_rest S (i := 0) rfl hN.src gN)) Am cm E (hE.mono (src_rest S (i := 0) rfl hE.src gE)) am hua hw hl hf) ?_)
  rintro e z ⟨A3, c4, A5, c6, A7, c8, rfl, g⟩
  have S := S.pushThings g
  refine ⟨_, rfl, ?_⟩
  intro a F
  refine l_pure 3 (fun L => (17, .bool true) :: (16, .agg #[.slice A3 r.nodes.length c4, .slice A5 r.edges.length c6, .slice A7 r.amts.length c8]) :: (10, .tuple #[.agg #[.slice A3 r.nodes.length c4, .slice A5 r.edges.length c6, .slice A7 r.amts.length c8], .bool true]) :: L) F (by kernel_rfl) fun a F => ?_
  refine l_do F rfl rfl (op_alloc S _ (.agg #[.slice none 0 0, .slice none 0 0, .slice none 0 0]) rfl (by kernel_rfl) fun b9 z S a F => ?_)
  refine l_do F rfl rfl (op_storeB S 9 _ _ _ b9 0 (.agg #[.slice A3 r.nodes.length c4, .slice A5 r.edges.length c6, .slice A7 r.amts.length c8]) F rfl rfl (by kernel_rfl) (by kernel_rfl) (by kernel_rfl) (by kernel_rfl) (by kernel_rfl) fun z S a F => ?_)
  refine l_pure 1 (fun L => (9, .bool true) :: L) F (by kernel_rfl) fun a F => ?_
  refine l_then ?_
  refine s_reg ?_
  refine l_pure 1 (fun L => (18, .bool true) :: L) F (by kernel_rfl) fun a F => ?_
  refine l_then ?_
  refine c_t F rfl ?_
  refine wp_region_list ?_
  refine l_do F rfl rfl (op_load _ _ (some ⟨bo, 0, none⟩) 0 (.slice Ar R.length cr) F rfl (by kernel_rfl) (by kernel_rfl) (cBox S 1 rfl (j := 0) rfl) (fun a F => ?_))
  refine l_do F rfl rfl (op_loadK _ _ (some ⟨b9, 0, none⟩) 0 [.slice A3 r.nodes.length c4, .slice A5 r.edges.length c6, .slice A7 r.amts.length c8] F rfl (by kernel_rfl) (by kernel_rfl) (by kernel_rfl) (by simp) (cBoxK S 9 rfl 0 (by kernel_rfl)) (fun a F => ?_))
  refine l_do F rfl rfl (op_buildSlice S _ 1 _ 47 3 rtC ([(⟨A3, c4, A5, c6, A7, c8, r⟩ : RtM)] : List RtM) F rfl (by kernel_rfl) (by kernel_rfl) (by kernel_rfl) (by unfold maxLen; omega) fun b10 z S a F => ?_)
  refine l_do F rfl rfl (op_append S 2 _ _ _ 47 (.agg #[.slice none 0 0, .slice none 0 0, .slice none 0 0]) 3 72 R ([(⟨A3, c4, A5, c6, A7, c8, r⟩ : RtM)] : List RtM) rtC (some ⟨b10, 0, none⟩) 1 F rtC_len (fun _ => rfl) rfl rfl (by kernel_rfl) (by kernel_rfl) rfl rfl rfl (by kernel_rfl) (by kernel_rfl) (row_none (S.rowOf (i := 10) rfl)) (src_row (S.rowOf (i := 10) rfl)) (by first | omega | (simp <;> omega)) fun A11 c12 z S a F => ?_)
  refine l_do F rfl rfl (op_storeB S 1 _ _ _ bo 0 (.slice A11 ((R ++ ([(⟨A3, c4, A5, c6, A7, c8, r⟩ : RtM)] : List RtM)).length) c12) F rfl rfl (by kernel_rfl) (by kernel_rfl) (by kernel_rfl) (by kernel_rfl) (by kernel_rfl) fun z S a F => ?_)
  refine l_then ?_
  refine s_reg ?_
  refine l_do F rfl rfl (op_load _ _ (some ⟨bo, 0, none⟩) 0 (.slice A11 ((R ++ ([(⟨A3, c4, A5, c6, A7, c8, r⟩ : RtM)] : List RtM)).length) c12) F rfl (by kernel_rfl) (by kernel_rfl) (cBox S 1 rfl (j := 0) rfl) (fun a F => ?_))
  refine l_pure 1 (fun L => (24, .int .i64 ((R ++ ([(⟨A3, c4, A5, c6, A7, c8, r⟩ : RtM)] : List RtM)).length : Nat)) :: L) F (by kernel_rfl) fun a F => ?_
  by_cases ht13 : (((R ++ ([(⟨A3, c4, A5, c6, A7, c8, r⟩ : RtM)] : List RtM)).length : Nat) : Int) < (32 : Int)
  ·
   skip
   refine l_do F rfl rfl (op_pure F (v0 := .bool (decide ((((R ++ ([(⟨A3, c4, A5, c6, A7, c8, r⟩ : RtM)] : List RtM)).length : Nat) : Int) < (32 : Int)))) (v := .bool true) (by kernel_rfl) (lssT ht13) fun a F => ?_)
   refine l_pure 1 (fun L => (7, .bool true) :: L) F (by kernel_rfl) fun a F => ?_
   refine l_then ?_
   refine wp_ret ?_
   have S := bag_add (⟨A3, c4, A5, c6, A7, c8, r⟩ : RtM) S 3 6 7 8 rfl rfl rfl rfl (by decide) (by decide) (by decide) (by decide) (by decide) (by decide)
   exact fin F [.tmp 7] [.bool true] rfl ⟨by kernel_rfl, trivial⟩ (.bool true) rfl ⟨A11, c12, (R ++ ([(⟨A3, c4, A5, c6, A7, c8, r⟩ : RtM)] : List RtM)), true, rfl, (decide_eq_true (by omega)).symm, by rw [List.map_append, nextR_some hf]; rfl, S.pick [1, 2, 3, 4, 5, 0] (by decide)⟩
  ·
   skip
   refine l_do F rfl rfl (op_pure F (v0 := .bool (decide ((((R ++ ([(⟨A3, c4, A5, c6, A7, c8, r⟩ : RtM)] : List RtM)).length : Nat) : Int) < (32 : Int)))) (v := .bool false) (by kernel_rfl) (lssF ht13) fun a F => ?_)
   refine l_pure 1 (fun L => (7, .bool false) :: L) F (by kernel_rfl) fun a F => ?_
   refine l_then ?_
   refine wp_ret ?_
   have S := bag_add (⟨A3, c4, A5, c6, A7, c8, r⟩ : RtM) S 3 6 7 8 rfl rfl rfl rfl (by decide) (by decide) (by decide) (by decide) (by decide) (by decide)
   exact fin F [.tmp 7] [.bool false] rfl ⟨by kernel_rfl, trivial⟩ (.bool false) rfl ⟨A11, c12, (R ++ ([(⟨A3, c4, A5, c6, A7, c8, r⟩ : RtM)] : List RtM)), false, rfl, (decide_eq_false (by omega)).symm, by rw [List.map_append, nextR_some hf]; rfl, S.pick [1, 2, 3, 4, 5, 0] (by decide)⟩
/-- What seek comes to, with f channels left. -/
def SeekOk (f : Nat) : Prop := ∀ (w : World) (G : Nat → Prop) (bo bw ba : Nat) (As : Option Addr) (cs : Nat) (Ae : Option Addr) (ce : Nat) (x : Wb) (h : WebAt w As cs Ae ce x) (ok : x.Ok) (gs : InG G As (x.spots.flatMap spC)) (ge : InG G Ae (x.edges.flatMap edC)) (am : Int) (hua : U64 am) (to : Int) (s : Nat) (N E : List Int) (hw : WayOk x N E) (hl : E.length ≤ 7) (hf8 : E.length + f = 8) (An : Option Addr) (cn : Nat) (Am : Option Addr) (cm : Nat) (Ar : Option Addr) (cr : Nat) (R : List RtM) (hR : R.length < 32) (hS : Sat w w [box s 113 [.slice As x.spots.length cs, .slice Ae x.edges.length ce, .int .i64 to, .slice An N.length cn, .slice Am E.length cm, .func (.func 55) #[] #[.pointer (some ⟨bw, 0, none⟩), .pointer (some ⟨ba, 0, none⟩), .pointer (some ⟨bo, 0, none⟩)]], row 3 1 (.slice An N.length cn) N.length (N.flatMap iC_i64), row 3 1 (.slice Am E.length cm) E.length (E.flatMap iC_i64), box bo 34 [.slice Ar R.length cr], row 47 3 (.slice Ar R.length cr) R.length (R.flatMap rtC), bag (R.flatMap rtRows), box bw 32 [.slice As x.spots.length cs, .slice Ae x.edges.length ce], box ba 26 [.int .u64 am], rest w G]), Calls Try.prog 57 #[.pointer (some ⟨s, 0, none⟩)] w fun e w' => ∃ (A1 : Option Addr) (c1 : Nat) (A2 : Option Addr) (c2 : Nat) (A' : Option Addr) (c' : Nat) (R' : List RtM) (on : Bool), e = .returned (.bool on) ∧ on = decide (R'.length < 32) ∧ R'.map RtM.r = waysP x to am f N E (R.map RtM.r) ∧ Sat w w' [box s 113 [.slice As x.spots.length cs, .slice Ae x.edges.length ce, .int .i64 to, .slice A1 N.length c1, .slice A2 E.length c2, .func (.func 55) #[] #[.pointer (some ⟨bw, 0, none⟩), .pointer (some ⟨ba, 0, none⟩), .pointer (some ⟨bo, 0, none⟩)]], row 3 1 (.slice A1 N.length c1) N.length (N.flatMap iC_i64), row 3 1 (.slice A2 E.length c2) E.length (E.flatMap iC_i64), box bo 34 [.slice A' R'.length c'], row 47 3 (.slice A' R'.length c') R'.length (R'.flatMap rtC), bag (R'.flatMap rtRows), box bw 32 [.slice As x.spots.length cs, .slice Ae x.edges.length ce], box ba 26 [.int .u64 am], rest w G]
set_option maxRecDepth 100000 in
set_option maxHeartbeats 4000000 in
theorem seek_step {f : Nat} (ih : SeekOk f) : SeekOk (f + 1) := by
  intro w G bo bw ba As cs Ae ce x h ok gs ge am hua to s N E hw hl hf8 An cn Am cm Ar cr R hR hS
  refine enter 117 Try.func57 rfl rfl rfl fun a F => ?_
  have S : Sat w w [rest w G, box s 113 [.slice As x.spots.length cs, .slice Ae x.edges.length ce, .int .i64 to, .slice An N.length cn, .slice Am E.length cm, .func (.func 55) #[] #[.pointer (some ⟨bw, 0, none⟩), .pointer (some ⟨ba, 0, none⟩), .pointer (some ⟨bo, 0, none⟩)]], row 3 1 (.slice An N.length cn) N.length (N.flatMap iC_i64), row 3 1 (.slice Am E.length cm) E.length (E.flatMap iC_i64), box bo 34 [.slice Ar R.length cr], row 47 3 (.slice Ar R.length cr) R.length (R.flatMap rtC), bag (R.flatMap rtRows), box bw 32 [.slice As x.spots.length cs, .slice Ae x.edges.length ce], box ba 26 [.int .u64 am]] := hS.pick [8, 0, 1, 2, 3, 4, 5, 6, 7] (by decide)
  have hwl := hw.len
  have hlast : N[N.length - 1]? = some (N.getLastD 0) := by
    rw [List.getLastD_eq_getLast?, List.getLast?_eq_getElem?]
    cases hq : N[N.length - 1]? with
    | none => rw [List.getElem?_eq_none_iff] at hq; omega
    | some v => rfl
  refine s_reg ?_
  refine l_pure 1 (fun L => (2, .bool false) :: L) F (by kernel_rfl) fun a F => ?_
  refine l_then ?_
  refine wp_seq ?_
  refine region_gx (fun D => fun (_ : Unit) => [rest w G, box s 113 [.slice As x.spots.length cs, .slice Ae x.edges.length ce, .int .i64 to, .slice An N.length cn, .slice Am E.length cm, .func (.func 55) #[] #[.pointer (some ⟨bw, 0, none⟩), .pointer (some ⟨ba, 0, none⟩), .pointer (some ⟨bo, 0, none⟩)]], row 3 1 (.slice An N.length cn) N.length (N.flatMap iC_i64), row 3 1 (.slice Am E.length cm) E.length (E.flatMap iC_i64), box bo 34 [.slice Ar R.length cr], row 47 3 (.slice Ar R.length cr) R.length (R.flatMap rtC), bag (R.flatMap rtRows), box bw 32 [.slice As x.spots.length cs, .slice Ae x.edges.length ce], box ba 26 [.int .u64 am]]) (fun (_ : Unit) => [.pointer (some ⟨s, 0, none⟩), .pointer (some ⟨s, 0, none⟩), .pointer (some ⟨s, 3, none⟩), .slice An N.length cn, .pointer (some ⟨s, 0, none⟩), .pointer (some ⟨s, 0, none⟩), .pointer (some ⟨s, 3, none⟩), .slice An N.length cn, .int .i64 (N.length : Nat), .int .i64 (N.length - 1 : Nat), ptrA An ((N.length - 1) * 1), .int .i64 (N.getLastD 0), .int .i64 (N.getLastD 0)]) [(3, [], [10, 11]), (7, [], [9, 10, 11]), (9, [7], [10, 11]), (10, [3, 7, 9], [11]), (11, [3, 7, 9, 10], [])] () rfl (by kernel_rfl) (by kernel_rfl) F S.drew ?_ ?_ ?_ ?_ ?_
  · rintro ⟨⟩; rfl
  · rintro ⟨⟩; kernel_rfl
  ·
   intro D D' x h
   cases x
   rfl
  ·
   refine ⟨?_, ?_⟩
   ·
    refine ⟨_, rfl, rfl, by kernel_rfl, ?_⟩
    rintro D ⟨⟩ a z S F
    refine ⟨by kernel_rfl, ?_⟩
    exact op_load _ _ (some ⟨s, 0, none⟩) 3 (.slice An N.length cn) F rfl (by kernel_rfl) (by kernel_rfl) (cBox S 1 rfl (j := 3) rfl) (⟨(), rfl, (SameB.refl _ _ rfl), S⟩)
   refine ⟨?_, ?_⟩
   ·
    refine ⟨_, rfl, rfl, by kernel_rfl, ?_⟩
    rintro D ⟨⟩ a z S F
    refine ⟨by kernel_rfl, ?_⟩
    exact op_load _ _ (some ⟨s, 0, none⟩) 3 (.slice An N.length cn) F rfl (by kernel_rfl) (by kernel_rfl) (cBox S 1 rfl (j := 3) rfl) (⟨(), rfl, (SameB.refl _ _ rfl), S⟩)
   refine ⟨?_, ?_⟩
   ·
    refine ⟨_, rfl, rfl, by kernel_rfl, ?_⟩
    rintro D ⟨⟩ a z S F
    refine ⟨by kernel_rfl, ?_⟩
    exact op_pure F (v0 := .int .i64 (IntKind.wrap .i64 ((N.length : Nat) - 1))) (v := .int .i64 (N.length - 1 : Nat)) (by kernel_rfl) (wrn_i64 (by omega) (by omega) (by omega)) ⟨(), rfl, (SameB.refl _ _ rfl), S⟩
   refine ⟨?_, ?_⟩
   ·
    refine ⟨_, rfl, rfl, by kernel_rfl, ?_⟩
    rintro D ⟨⟩ a z S F
    refine ⟨by kernel_rfl, ?_⟩
    exact op_index _ 3 _ _ An N.length cn (N.length - 1) 1 .i64 F rfl (by kernel_rfl) (by kernel_rfl) (by kernel_rfl) (by kernel_rfl) (get_lt hlast) (row_some S 2 rfl (m := N.length - 1) (get_lt hlast)) (⟨(), rfl, (SameB.refl _ _ rfl), S⟩)
   refine ⟨?_, ?_⟩
   ·
    refine ⟨_, rfl, rfl, by kernel_rfl, ?_⟩
    rintro D ⟨⟩ a z S F
    refine ⟨by kernel_rfl, ?_⟩
    exact op_load _ _ An ((N.length - 1) * 1) (.int .i64 (N.getLastD 0)) F rfl (by kernel_rfl) (by kernel_rfl) (cRec S 2 iC_len_i64 rfl 0 hlast rfl) (⟨(), rfl, (SameB.refl _ _ rfl), S⟩)
   trivial
  ·
   rintro ⟨⟩ a z F S
   have F := F.sub (l := [(0, .pointer (some ⟨s, 0, none⟩)), (3, .int .i64 (N.getLastD 0))]) ⟨by kernel_rfl, by kernel_rfl, trivial⟩
   have S : Sat w z [rest w G, box s 113 [.slice As x.spots.length cs, .slice Ae x.edges.length ce, .int .i64 to, .slice An N.length cn, .slice Am E.length cm, .func (.func 55) #[] #[.pointer (some ⟨bw, 0, none⟩), .pointer (some ⟨ba, 0, none⟩), .pointer (some ⟨bo, 0, none⟩)]], row 3 1 (.slice An N.length cn) N.length (N.flatMap iC_i64), row 3 1 (.slice Am E.length cm) E.length (E.flatMap iC_i64), box bo 34 [.slice Ar R.length cr], row 47 3 (.slice Ar R.length cr) R.length (R.flatMap rtC), bag (R.flatMap rtRows), box bw 32 [.slice As x.spots.length cs, .slice Ae x.edges.length ce], box ba 26 [.int .u64 am]] := S
   refine then_n ?_
   refine wp_seq ?_
   refine s_reg ?_
   refine l_pure 4 (fun L => (22, .pointer (some ⟨s, 2, none⟩)) :: (21, .pointer (some ⟨s, 0, none⟩)) :: (20, .pointer (some ⟨s, 0, none⟩)) :: (19, .int .i64 (N.getLastD 0)) :: L) F (by kernel_rfl) fun a F => ?_
   refine l_do F rfl rfl (op_load _ _ (some ⟨s, 0, none⟩) 2 (.int .i64 to) F rfl (by kernel_rfl) (by kernel_rfl) (cBox S 1 rfl (j := 2) rfl) (fun a F => ?_))
   by_cases ht1 : ((N.getLastD 0) : Int) = (to : Int)
   ·
    skip
    have hto := ht1
    refine l_do F rfl rfl (op_pure F (v0 := .bool (((N.getLastD 0) : Int) == (to : Int))) (v := .bool true) (by kernel_rfl) (eqlT ht1) fun a F => ?_)
    refine l_then ?_
    refine c_t F rfl ?_
    refine wp_seq ?_
    have S := S.pushEmp
    refine region_gx (fun D => fun ((A2, c3, R4, on9) : Option Addr × Nat × List RtM × Bool) => [rest w G, box s 113 [.slice As x.spots.length cs, .slice Ae x.edges.length ce, .int .i64 to, .slice An N.length cn, .slice Am E.length cm, .func (.func 55) #[] #[.pointer (some ⟨bw, 0, none⟩), .pointer (some ⟨ba, 0, none⟩), .pointer (some ⟨bo, 0, none⟩)]], row 3 1 (.slice An N.length cn) N.length (N.flatMap iC_i64), row 3 1 (.slice Am E.length cm) E.length (E.flatMap iC_i64), bif D 12 then box bo 34 [.slice A2 R4.length c3] else box bo 34 [.slice Ar R.length cr], bif D 12 then row 47 3 (.slice A2 R4.length c3) R4.length (R4.flatMap rtC) else row 47 3 (.slice Ar R.length cr) R.length (R.flatMap rtC), bif D 12 then bag (R4.flatMap rtRows) else bag (R.flatMap rtRows), box bw 32 [.slice As x.spots.length cs, .slice Ae x.edges.length ce], box ba 26 [.int .u64 am], bif D 12 then when (on9 = decide (R4.length < 32) ∧ R4.map RtM.r = nextR x N E am (R.map RtM.r)) emp else emp]) (fun ((A2, c3, R4, on9) : Option Addr × Nat × List RtM × Bool) => [.pointer (some ⟨s, 0, none⟩), .pointer (some ⟨s, 0, none⟩), .pointer (some ⟨s, 5, none⟩), .func (.func 55) #[] #[.pointer (some ⟨bw, 0, none⟩), .pointer (some ⟨ba, 0, none⟩), .pointer (some ⟨bo, 0, none⟩)], .pointer (some ⟨s, 0, none⟩), .pointer (some ⟨s, 0, none⟩), .pointer (some ⟨s, 3, none⟩), .slice An N.length cn, .pointer (some ⟨s, 0, none⟩), .pointer (some ⟨s, 0, none⟩), .pointer (some ⟨s, 4, none⟩), .slice Am E.length cm, .bool on9, .bool on9]) [(3, [], [12]), (7, [], [12]), (11, [], [12]), (12, [3, 7, 11], [])] (none, 0, default, default) rfl (by kernel_rfl) (by kernel_rfl) F S.drew ?_ ?_ ?_ ?_ ?_
    · rintro ⟨A2, c3, R4, on9⟩; rfl
    · rintro ⟨A2, c3, R4, on9⟩; kernel_rfl
    ·
     intro D D' x h
     obtain ⟨A2, c3, R4, on9⟩ := x
     simp only [h 12 (by decide)]
    ·
     refine ⟨?_, ?_⟩
     ·
      refine ⟨_, rfl, rfl, by kernel_rfl, ?_⟩
      rintro D ⟨A2, c3, R4, on9⟩ a z S F
      refine ⟨by kernel_rfl, ?_⟩
      exact op_load _ _ (some ⟨s, 0, none⟩) 5 (.func (.func 55) #[] #[.pointer (some ⟨bw, 0, none⟩), .pointer (some ⟨ba, 0, none⟩), .pointer (some ⟨bo, 0, none⟩)]) F rfl (by kernel_rfl) (by kernel_rfl) (cBox S 1 rfl (j := 5) rfl) (⟨(A2, c3, R4, on9), rfl, (SameB.refl _ _ rfl), S⟩)
     refine ⟨?_, ?_⟩
     ·
      refine ⟨_, rfl, rfl, by kernel_rfl, ?_⟩
      rintro D ⟨A2, c3, R4, on9⟩ a z S F
      refine ⟨by kernel_rfl, ?_⟩
      exact op_load _ _ (some ⟨s, 0, none⟩) 3 (.slice An N.length cn) F rfl (by kernel_rfl) (by kernel_rfl) (cBox S 1 rfl (j := 3) rfl) (⟨(A2, c3, R4, on9), rfl, (SameB.refl _ _ rfl), S⟩)
     refine ⟨?_, ?_⟩
     ·
      refine ⟨_, rfl, rfl, by kernel_rfl, ?_⟩
      rintro D ⟨A2, c3, R4, on9⟩ a z S F
      refine ⟨by kernel_rfl, ?_⟩
      exact op_load _ _ (some ⟨s, 0, none⟩) 4 (.slice Am E.length cm) F rfl (by kernel_rfl) (by kernel_rfl) (cBox S 1 rfl (j := 4) rfl) (⟨(A2, c3, R4, on9), rfl, (SameB.refl _ _ rfl), S⟩)
     refine ⟨?_, ?_⟩
     ·
      refine ⟨_, rfl, rfl, by kernel_rfl, ?_⟩
      rintro D ⟨A2, c3, R4, on9⟩ a z S F
      refine ⟨by kernel_rfl, ?_⟩
      have S : Sat w z [rest w G, box s 113 [.slice As x.spots.length cs, .slice Ae x.edges.length ce, .int .i64 to, .slice An N.length cn, .slice Am E.length cm, .func (.func 55) #[] #[.pointer (some ⟨bw, 0, none⟩), .pointer (some ⟨ba, 0, none⟩), .pointer (some ⟨bo, 0, none⟩)]], row 3 1 (.slice An N.length cn) N.length (N.flatMap iC_i64), row 3 1 (.slice Am E.length cm) E.length (E.flatMap iC_i64), box bo 34 [.slice Ar R.length cr], row 47 3 (.slice Ar R.length cr) R.length (R.flatMap rtC), bag (R.flatMap rtRows), box bw 32 [.slice As x.spots.length cs, .slice Ae x.edges.length ce], box ba 26 [.int .u64 am], emp] := S
      obtain ⟨G9, g9, hin9, hlt9, k9⟩ := S.frameB [4, 5, 6, 7, 8] (by decide) rfl
      refine op_fn F (by kernel_rfl) (found_any _ G9 bo bw ba As cs Ae ce x ⟨h.s.mono (src_rest S (i := 0) rfl h.s.src gs), h.e.mono (src_rest S (i := 0) rfl h.e.src ge)⟩ ok (InG.rest hin9 0 (by decide) rfl gs) (InG.rest hin9 0 (by decide) rfl ge) am hua An cn N (Recs.ofRow (S.rowOf (i := 2) rfl) (by omega)) (InG.row S hin9 2 (by decide) rfl) Am cm E (Recs.ofRow (S.rowOf (i := 3) rfl) (by omega)) (InG.row S hin9 3 (by decide) rfl) hw hl Ar cr R (by omega) g9) ?_
      rintro e z9 ⟨A9, c10, R11, on9, rfl, hon9, hR9, g⟩
      have S : Sat w z9 [rest w G, box s 113 [.slice As x.spots.length cs, .slice Ae x.edges.length ce, .int .i64 to, .slice An N.length cn, .slice Am E.length cm, .func (.func 55) #[] #[.pointer (some ⟨bw, 0, none⟩), .pointer (some ⟨ba, 0, none⟩), .pointer (some ⟨bo, 0, none⟩)]], row 3 1 (.slice An N.length cn) N.length (N.flatMap iC_i64), row 3 1 (.slice Am E.length cm) E.length (E.flatMap iC_i64), box bo 34 [.slice A9 R11.length c10], row 47 3 (.slice A9 R11.length c10) R11.length (R11.flatMap rtC), bag (R11.flatMap rtRows), box bw 32 [.slice As x.spots.length cs, .slice Ae x.edges.length ce], box ba 26 [.int .u64 am], emp] := k9 z9 [box bo 34 [.slice A9 R11.length c10], row 47 3 (.slice A9 R11.length c10) R11.length (R11.flatMap rtC), bag (R11.flatMap rtRows), box bw 32 [.slice As x.spots.length cs, .slice Ae x.edges.length ce], box ba 26 [.int .u64 am]] rfl g
      clear g g9 k9 hin9 hlt9
      have S := S.shut_when (i := 9) (p := on9 = decide (R11.length < 32) ∧ R11.map RtM.r = nextR x N E am (R.map RtM.r)) ⟨hon9, hR9⟩ rfl
      exact ⟨_, rfl, (A9, c10, R11, on9), rfl, ⟨rfl, rfl, rfl, rfl, rfl, rfl, rfl, rfl, rfl, rfl, rfl, rfl, trivial, trivial, trivial⟩, S⟩
     trivial
    ·
     rintro ⟨A2, c3, R4, on9⟩ a z F S
     have F := F.sub (l := [(2, .bool on9)]) ⟨by kernel_rfl, trivial⟩
     have S : Sat w z [rest w G, box s 113 [.slice As x.spots.length cs, .slice Ae x.edges.length ce, .int .i64 to, .slice An N.length cn, .slice Am E.length cm, .func (.func 55) #[] #[.pointer (some ⟨bw, 0, none⟩), .pointer (some ⟨ba, 0, none⟩), .pointer (some ⟨bo, 0, none⟩)]], row 3 1 (.slice An N.length cn) N.length (N.flatMap iC_i64), row 3 1 (.slice Am E.length cm) E.length (E.flatMap iC_i64), box bo 34 [.slice A2 R4.length c3], row 47 3 (.slice A2 R4.length c3) R4.length (R4.flatMap rtC), bag (R4.flatMap rtRows), box bw 32 [.slice As x.spots.length cs, .slice Ae x.edges.length ce], box ba 26 [.int .u64 am], when (on9 = decide (R4.length < 32) ∧ R4.map RtM.r = nextR x N E am (R.map RtM.r)) emp] := S
     obtain ⟨⟨hon9, hR9⟩, S⟩ := S.open_when (i := 9) rfl
     have S : Sat w z [rest w G, box s 113 [.slice As x.spots.length cs, .slice Ae x.edges.length ce, .int .i64 to, .slice An N.length cn, .slice Am E.length cm, .func (.func 55) #[] #[.pointer (some ⟨bw, 0, none⟩), .pointer (some ⟨ba, 0, none⟩), .pointer (some ⟨bo, 0, none⟩)]], row 3 1 (.slice An N.length cn) N.length (N.flatMap iC_i64), row 3 1 (.slice Am E.length cm) E.length (E.flatMap iC_i64), box bo 34 [.slice A2 R4.length c3], row 47 3 (.slice A2 R4.length c3) R4.length (R4.flatMap rtC), bag (R4.flatMap rtRows), box bw 32 [.slice As x.spots.length cs, .slice Ae x.edges.length ce], box ba 26 [.int .u64 am], emp] := S
     refine then_n ?_
     refine wp_ret ?_
     refine then_r (?_)
     exact fin F [.tmp 2] [.bool on9] rfl ⟨by kernel_rfl, trivial⟩ (.bool on9) rfl ⟨An, cn, Am, cm, A2, c3, R4, on9, rfl, hon9, (by rw [hR9, ways_there (by rw [List.length_map]; exact hR) hto]; rfl), S.pick [1, 2, 3, 4, 5, 6, 7, 8, 0] (by decide)⟩
   ·
    skip
    have hto := ht1
    refine l_do F rfl rfl (op_pure F (v0 := .bool (((N.getLastD 0) : Int) == (to : Int))) (v := .bool false) (by kernel_rfl) (eqlF ht1) fun a F => ?_)
    refine l_then ?_
    refine c_f F rfl ?_
    refine wp_skip ?_
    refine then_n ?_
    refine wp_seq ?_
    refine s_reg ?_
    refine l_pure 3 (fun L => (40, .pointer (some ⟨s, 4, none⟩)) :: (39, .pointer (some ⟨s, 0, none⟩)) :: (38, .pointer (some ⟨s, 0, none⟩)) :: L) F (by kernel_rfl) fun a F => ?_
    refine l_do F rfl rfl (op_load _ _ (some ⟨s, 0, none⟩) 4 (.slice Am E.length cm) F rfl (by kernel_rfl) (by kernel_rfl) (cBox S 1 rfl (j := 4) rfl) (fun a F => ?_))
    refine l_pure 1 (fun L => (42, .int .i64 (E.length : Nat)) :: L) F (by kernel_rfl) fun a F => ?_
    by_cases ht12 : (7 : Int) ≤ ((E.length : Nat) : Int)
    ·
     skip
     have h7 := ht12
     refine l_do F rfl rfl (op_pure F (v0 := .bool (decide (((E.length : Nat) : Int) ≥ (7 : Int)))) (v := .bool true) (by kernel_rfl) (geqT ht12) fun a F => ?_)
     refine l_then ?_
     refine c_t F rfl ?_
     refine s_reg ?_
     refine l_pure 1 (fun L => (2, .bool true) :: L) F (by kernel_rfl) fun a F => ?_
     refine l_then ?_
     refine wp_ret ?_
     refine then_r (?_)
     exact fin F [.tmp 2] [.bool true] rfl ⟨by kernel_rfl, trivial⟩ (.bool true) rfl ⟨An, cn, Am, cm, Ar, cr, R, true, rfl, (decide_eq_true hR).symm, (ways_long (by rw [List.length_map]; exact hR) hto (by omega)).symm, S.pick [1, 2, 3, 4, 5, 6, 7, 8, 0] (by decide)⟩
    ·
     skip
     have h7 := ht12
     refine l_do F rfl rfl (op_pure F (v0 := .bool (decide (((E.length : Nat) : Int) ≥ (7 : Int)))) (v := .bool false) (by kernel_rfl) (geqF ht12) fun a F => ?_)
     refine l_then ?_
     refine c_f F rfl ?_
     refine wp_skip ?_
     refine then_n ?_
     refine wp_seq ?_
     refine s_reg ?_
     refine l_pure 3 (fun L => (46, .pointer (some ⟨s, 0, none⟩)) :: (45, .pointer (some ⟨s, 0, none⟩)) :: (44, .pointer (some ⟨s, 0, none⟩)) :: L) F (by kernel_rfl) fun a F => ?_
     refine l_do F rfl rfl (op_loadK _ _ (some ⟨s, 0, none⟩) 0 [.slice As x.spots.length cs, .slice Ae x.edges.length ce] F rfl (by kernel_rfl) (by kernel_rfl) (by kernel_rfl) (by simp) (cBoxK S 1 rfl 0 (by kernel_rfl)) (fun a F => ?_))
     refine l_pure 1 (fun L => (48, .int .i64 (N.getLastD 0)) :: L) F (by kernel_rfl) fun a F => ?_
     refine l_do F rfl rfl (op_fn F (by kernel_rfl) (steps_any _ As cs Ae ce x ⟨h.s.mono (src_rest S (i := 0) rfl h.s.src gs), h.e.mono (src_rest S (i := 0) rfl h.e.src ge)⟩ ok (N.getLastD 0)) ?_)
     rintro e z ⟨A13, c14, rfl, g⟩
     have S := S.pushThings g
     refine ⟨_, rfl, ?_⟩
     intro a F
     refine l_pure 2 (fun L => (51, .int .i64 0) :: (50, .int .i64 ((stepsP x (N.getLastD 0)).length : Nat)) :: L) F (by kernel_rfl) fun a F => ?_
     refine l_then ?_
     refine wp_block ?_
     have hfew := steps_few x (N.getLastD 0)
     refine wp_loop_m (fun m a z => ∃ (j : Nat) (An : Option Addr) (cn : Nat) (Am : Option Addr) (cm : Nat) (Ar : Option Addr) (cr : Nat) (R1 : List RtM), m = (stepsP x (N.getLastD 0)).length - j ∧ (j ≤ (stepsP x (N.getLastD 0)).length) ∧ (R1.map RtM.r = waysJ x to am f N E (R.map RtM.r) j) ∧ (R1.length < 32) ∧ Fr a 117 [(0, .pointer (some ⟨s, 0, none⟩)), (49, .slice A13 ((stepsP x (N.getLastD 0)).length) c14), (50, .int .i64 ((stepsP x (N.getLastD 0)).length : Nat)), (51, .int .i64 (j : Nat))] ∧ Sat w z [rest w G, box s 113 [.slice As x.spots.length cs, .slice Ae x.edges.length ce, .int .i64 to, .slice An N.length cn, .slice Am E.length cm, .func (.func 55) #[] #[.pointer (some ⟨bw, 0, none⟩), .pointer (some ⟨ba, 0, none⟩), .pointer (some ⟨bo, 0, none⟩)]], row 3 1 (.slice An N.length cn) N.length (N.flatMap iC_i64), row 3 1 (.slice Am E.length cm) E.length (E.flatMap iC_i64), box bo 34 [.slice Ar R1.length cr], row 47 3 (.slice Ar R1.length cr) R1.length (R1.flatMap rtC), bag (R1.flatMap rtRows), box bw 32 [.slice As x.spots.length cs, .slice Ae x.edges.length ce], box ba 26 [.int .u64 am], row 133 5 (.slice A13 ((stepsP x (N.getLastD 0)).length) c14) ((stepsP x (N.getLastD 0)).length) ((stepsP x (N.getLastD 0)).flatMap stC)]) _ ⟨0, An, cn, Am, cm, Ar, cr, R, rfl, Nat.zero_le _, (waysJ_zero x to am f N E (R.map RtM.r)).symm, hR, F.sub ⟨by kernel_rfl, by kernel_rfl, by kernel_rfl, by kernel_rfl, trivial⟩, S⟩ ?_
     rintro m a z ⟨j, An, cn, Am, cm, Ar, cr, R1, hm, hf15, hf16, hf17, F, S⟩
     have hRj := hf16
     have hRl := hf17
     refine s_reg ?_
     by_cases ht18 : ((j : Nat) : Int) < (((stepsP x (N.getLastD 0)).length : Nat) : Int)
     ·
      skip
      obtain ⟨s0, hs⟩ : ∃ s0, (stepsP x (N.getLastD 0))[j]? = some s0 := ⟨_, List.getElem?_eq_getElem (by omega)⟩
      refine l_do F rfl rfl (op_pure F (v0 := .bool (decide (((j : Nat) : Int) < (((stepsP x (N.getLastD 0)).length : Nat) : Int)))) (v := .bool true) (by kernel_rfl) (lssT ht18) fun a F => ?_)
      refine l_then ?_
      refine wp_seq ?_
      refine c_t F rfl ?_
      refine wp_skip ?_
      refine then_n ?_
      refine wp_seq ?_
      refine wp_block ?_
      refine s_reg ?_
      refine l_do F rfl rfl (op_index _ 133 _ _ A13 ((stepsP x (N.getLastD 0)).length) c14 j 5 .i64 F rfl (by kernel_rfl) (by kernel_rfl) (by kernel_rfl) (by kernel_rfl) (get_lt hs) (row_some S 9 rfl (m := j) (get_lt hs)) (fun a F => ?_))
      refine l_do F rfl rfl (op_loadK _ _ A13 (j * 5) [.int .i64 s0.edge, .int .i64 s0.to, .int .u64 s0.can, .int .u64 s0.base, .int .u64 s0.rate] F rfl (by kernel_rfl) (by kernel_rfl) (by kernel_rfl) (by simp) (cRecK0 S 9 stC_len rfl hs (by kernel_rfl)) (fun a F => ?_))
      refine l_do F rfl rfl (op_alloc S _ (.agg #[.int .i64 0, .int .i64 0, .int .u64 0, .int .u64 0, .int .u64 0]) rfl (by kernel_rfl) fun b19 z S a F => ?_)
      refine l_do F rfl rfl (op_storeB S 10 _ _ _ b19 0 (.agg #[.int .i64 s0.edge, .int .i64 s0.to, .int .u64 s0.can, .int .u64 s0.base, .int .u64 s0.rate]) F rfl rfl (by kernel_rfl) (by kernel_rfl) (by kernel_rfl) (by kernel_rfl) (by kernel_rfl) fun z S a F => ?_)
      refine l_then ?_
      refine wp_seq ?_
      refine wp_seq ?_
      have hn20 : Option.isSome A13 = true := (row_some S 9 rfl (m := j) (get_lt hs))
      cases hb21 : (decide (s0.to ∈ N)) with
      | false =>
       refine region_gx (fun D => fun (_ : Unit) => [rest w G, box s 113 [.slice As x.spots.length cs, .slice Ae x.edges.length ce, .int .i64 to, .slice An N.length cn, .slice Am E.length cm, .func (.func 55) #[] #[.pointer (some ⟨bw, 0, none⟩), .pointer (some ⟨ba, 0, none⟩), .pointer (some ⟨bo, 0, none⟩)]], row 3 1 (.slice An N.length cn) N.length (N.flatMap iC_i64), row 3 1 (.slice Am E.length cm) E.length (E.flatMap iC_i64), box bo 34 [.slice Ar R1.length cr], row 47 3 (.slice Ar R1.length cr) R1.length (R1.flatMap rtC), bag (R1.flatMap rtRows), box bw 32 [.slice As x.spots.length cs, .slice Ae x.edges.length ce], box ba 26 [.int .u64 am], row 133 5 (.slice A13 ((stepsP x (N.getLastD 0)).length) c14) ((stepsP x (N.getLastD 0)).length) ((stepsP x (N.getLastD 0)).flatMap stC), box b19 133 [.int .i64 s0.edge, .int .i64 s0.to, .int .u64 s0.can, .int .u64 s0.base, .int .u64 s0.rate]]) (fun (_ : Unit) => [.pointer (some ⟨s, 0, none⟩), .pointer (some ⟨s, 0, none⟩), .pointer (some ⟨s, 3, none⟩), .slice An N.length cn, .pointer (some ⟨b19, 1, none⟩), .int .i64 s0.to, .bool false]) [(3, [], [6]), (5, [], [6]), (6, [3, 5], [])] () rfl (by kernel_rfl) (by kernel_rfl) F S.drew ?_ ?_ ?_ ?_ ?_
       · rintro ⟨⟩; rfl
       · rintro ⟨⟩; kernel_rfl
       ·
        intro D D' x h
        cases x
        rfl
       ·
        refine ⟨?_, ?_⟩
        ·
         refine ⟨_, rfl, rfl, by kernel_rfl, ?_⟩
         rintro D ⟨⟩ a z S F
         refine ⟨by kernel_rfl, ?_⟩
         exact op_load _ _ (some ⟨s, 0, none⟩) 3 (.slice An N.length cn) F rfl (by kernel_rfl) (by kernel_rfl) (cBox S 1 rfl (j := 3) rfl) (⟨(), rfl, (SameB.refl _ _ rfl), S⟩)
        refine ⟨?_, ?_⟩
        ·
         refine ⟨_, rfl, rfl, by kernel_rfl, ?_⟩
         rintro D ⟨⟩ a z S F
         refine ⟨by kernel_rfl, ?_⟩
         exact op_load _ _ (some ⟨b19, 0, none⟩) 1 (.int .i64 s0.to) F rfl (by kernel_rfl) (by kernel_rfl) (cBox S 10 rfl (j := 1) rfl) (⟨(), rfl, (SameB.refl _ _ rfl), S⟩)
        refine ⟨?_, ?_⟩
        ·
         refine ⟨_, rfl, rfl, by kernel_rfl, ?_⟩
         rintro D ⟨⟩ a z S F
         refine ⟨by kernel_rfl, ?_⟩
         refine op_fn F (by kernel_rfl) (contains_any _ An cn N s0.to (Recs.ofRow (S.rowOf (i := 2) rfl) (by omega)) (by omega)) ?_
         rintro e z ⟨rfl, hb⟩
         have S := S.grow hb
         exact ⟨_, rfl, (), by rw [hb21]; rfl, (SameB.refl _ _ rfl), S⟩
        trivial
       ·
        rintro ⟨⟩ a z F S
        have F := F.sub (l := [(0, .pointer (some ⟨s, 0, none⟩)), (5, .pointer (some ⟨b19, 0, none⟩)), (49, .slice A13 ((stepsP x (N.getLastD 0)).length) c14), (50, .int .i64 ((stepsP x (N.getLastD 0)).length : Nat)), (51, .int .i64 (j : Nat)), (61, .bool false)]) ⟨by kernel_rfl, by kernel_rfl, by kernel_rfl, by kernel_rfl, by kernel_rfl, by kernel_rfl, trivial⟩
        have S : Sat w z [rest w G, box s 113 [.slice As x.spots.length cs, .slice Ae x.edges.length ce, .int .i64 to, .slice An N.length cn, .slice Am E.length cm, .func (.func 55) #[] #[.pointer (some ⟨bw, 0, none⟩), .pointer (some ⟨ba, 0, none⟩), .pointer (some ⟨bo, 0, none⟩)]], row 3 1 (.slice An N.length cn) N.length (N.flatMap iC_i64), row 3 1 (.slice Am E.length cm) E.length (E.flatMap iC_i64), box bo 34 [.slice Ar R1.length cr], row 47 3 (.slice Ar R1.length cr) R1.length (R1.flatMap rtC), bag (R1.flatMap rtRows), box bw 32 [.slice As x.spots.length cs, .slice Ae x.edges.length ce], box ba 26 [.int .u64 am], row 133 5 (.slice A13 ((stepsP x (N.getLastD 0)).length) c14) ((stepsP x (N.getLastD 0)).length) ((stepsP x (N.getLastD 0)).flatMap stC), box b19 133 [.int .i64 s0.edge, .int .i64 s0.to, .int .u64 s0.can, .int .u64 s0.base, .int .u64 s0.rate]] := S
        refine then_n ?_
        refine c_f F rfl ?_
        refine wp_skip ?_
        refine then_n ?_
        refine wp_seq ?_
        have S := S.pushEmp.pushEmp
        refine region_gx (fun D => fun ((b22, A23, c24, b25, A26, c27) : Nat × Option Addr × Nat × Nat × Option Addr × Nat) => [rest w G, bif D 23 then box s 113 [.slice As x.spots.length cs, .slice Ae x.edges.length ce, .int .i64 to, .slice A23 ((N ++ ([s0.to] : List Int)).length) c24, .slice A26 ((E ++ ([s0.edge] : List Int)).length) c27, .func (.func 55) #[] #[.pointer (some ⟨bw, 0, none⟩), .pointer (some ⟨ba, 0, none⟩), .pointer (some ⟨bo, 0, none⟩)]] else (bif D 20 then box s 113 [.slice As x.spots.length cs, .slice Ae x.edges.length ce, .int .i64 to, .slice A23 ((N ++ ([s0.to] : List Int)).length) c24, .slice Am E.length cm, .func (.func 55) #[] #[.pointer (some ⟨bw, 0, none⟩), .pointer (some ⟨ba, 0, none⟩), .pointer (some ⟨bo, 0, none⟩)]] else box s 113 [.slice As x.spots.length cs, .slice Ae x.edges.length ce, .int .i64 to, .slice An N.length cn, .slice Am E.length cm, .func (.func 55) #[] #[.pointer (some ⟨bw, 0, none⟩), .pointer (some ⟨ba, 0, none⟩), .pointer (some ⟨bo, 0, none⟩)]]), bif D 9 then row 3 1 (.slice A23 ((N ++ ([s0.to] : List Int)).length) c24) ((N ++ ([s0.to] : List Int)).length) ((N ++ ([s0.to] : List Int)).flatMap iC_i64) else row 3 1 (.slice An N.length cn) N.length (N.flatMap iC_i64), bif D 17 then row 3 1 (.slice A26 ((E ++ ([s0.edge] : List Int)).length) c27) ((E ++ ([s0.edge] : List Int)).length) ((E ++ ([s0.edge] : List Int)).flatMap iC_i64) else row 3 1 (.slice Am E.length cm) E.length (E.flatMap iC_i64), box bo 34 [.slice Ar R1.length cr], row 47 3 (.slice Ar R1.length cr) R1.length (R1.flatMap rtC), bag (R1.flatMap rtRows), box bw 32 [.slice As x.spots.length cs, .slice Ae x.edges.length ce], box ba 26 [.int .u64 am], row 133 5 (.slice A13 ((stepsP x (N.getLastD 0)).length) c14) ((stepsP x (N.getLastD 0)).length) ((stepsP x (N.getLastD 0)).flatMap stC), box b19 133 [.int .i64 s0.edge, .int .i64 s0.to, .int .u64 s0.can, .int .u64 s0.base, .int .u64 s0.rate], bif D 8 then row 3 1 (.slice (some ⟨b22, 0, none⟩) 1 1) 1 (([s0.to] : List Int).flatMap iC_i64) else emp, bif D 16 then row 3 1 (.slice (some ⟨b25, 0, none⟩) 1 1) 1 (([s0.edge] : List Int).flatMap iC_i64) else emp]) (fun ((b22, A23, c24, b25, A26, c27) : Nat × Option Addr × Nat × Nat × Option Addr × Nat) => [.pointer (some ⟨s, 0, none⟩), .pointer (some ⟨s, 0, none⟩), .pointer (some ⟨s, 0, none⟩), .pointer (some ⟨s, 0, none⟩), .pointer (some ⟨s, 3, none⟩), .slice An N.length cn, .pointer (some ⟨b19, 1, none⟩), .int .i64 s0.to, .slice (some ⟨b22, 0, none⟩) 1 1, .slice A23 ((N ++ ([s0.to] : List Int)).length) c24, .pointer (some ⟨s, 0, none⟩), .pointer (some ⟨s, 0, none⟩), .pointer (some ⟨s, 4, none⟩), .slice Am E.length cm, .pointer (some ⟨b19, 0, none⟩), .int .i64 s0.edge, .slice (some ⟨b25, 0, none⟩) 1 1, .slice A26 ((E ++ ([s0.edge] : List Int)).length) c27, .pointer (some ⟨s, 0, none⟩), .pointer (some ⟨s, 3, none⟩), undef, .pointer (some ⟨s, 0, none⟩), .pointer (some ⟨s, 4, none⟩), undef]) [(5, [], [9, 17, 20, 23]), (7, [], [8, 9, 17, 20, 23]), (8, [7], [9, 17, 20, 23]), (9, [5, 7, 8], [17, 20, 23]), (13, [], [17, 20, 23]), (15, [], [16, 17, 20, 23]), (16, [15], [17, 20, 23]), (17, [5, 7, 8, 9, 13, 15, 16], [20, 23]), (20, [5, 7, 8, 9, 13, 15, 16, 17], [23]), (23, [5, 7, 8, 9, 13, 15, 16, 17, 20], [])] (0, none, 0, 0, none, 0) rfl (by kernel_rfl) (by kernel_rfl) F S.drew ?_ ?_ ?_ ?_ ?_
        · rintro ⟨b22, A23, c24, b25, A26, c27⟩; rfl
        · rintro ⟨b22, A23, c24, b25, A26, c27⟩; kernel_rfl
        ·
         intro D D' x h
         obtain ⟨b22, A23, c24, b25, A26, c27⟩ := x
         simp only [h 8 (by decide), h 9 (by decide), h 16 (by decide), h 17 (by decide), h 20 (by decide), h 23 (by decide)]
        ·
         refine ⟨?_, ?_⟩
         ·
          refine ⟨_, rfl, rfl, by kernel_rfl, ?_⟩
          rintro D ⟨b22, A23, c24, b25, A26, c27⟩ a z S F
          refine ⟨by kernel_rfl, ?_⟩
          exact op_load _ _ (some ⟨s, 0, none⟩) 3 (.slice An N.length cn) F rfl (by kernel_rfl) (by kernel_rfl) (cBox S 1 rfl (j := 3) rfl) (⟨(b22, A23, c24, b25, A26, c27), rfl, (SameB.refl _ _ rfl), S⟩)
         refine ⟨?_, ?_⟩
         ·
          refine ⟨_, rfl, rfl, by kernel_rfl, ?_⟩
          rintro D ⟨b22, A23, c24, b25, A26, c27⟩ a z S F
          refine ⟨by kernel_rfl, ?_⟩
          exact op_load _ _ (some ⟨b19, 0, none⟩) 1 (.int .i64 s0.to) F rfl (by kernel_rfl) (by kernel_rfl) (cBox S 10 rfl (j := 1) rfl) (⟨(b22, A23, c24, b25, A26, c27), rfl, (SameB.refl _ _ rfl), S⟩)
         refine ⟨?_, ?_⟩
         ·
          refine ⟨_, rfl, rfl, by kernel_rfl, ?_⟩
          rintro D ⟨b22, A23, c24, b25, A26, c27⟩ a z S F
          refine ⟨by kernel_rfl, ?_⟩
          exact op_buildSliceF S 11 rfl _ 1 _ 3 1 iC_i64 ([s0.to] : List Int) F rfl (by kernel_rfl) (by kernel_rfl) (by kernel_rfl) (by unfold maxLen; omega) fun y28 z S => ⟨(y28, A23, c24, b25, A26, c27), rfl, ⟨rfl, rfl, rfl, rfl, rfl, rfl, rfl, rfl, trivial, trivial, rfl, rfl, rfl, rfl, rfl, rfl, rfl, trivial, trivial, trivial, trivial, trivial, trivial, trivial, trivial⟩, S⟩
         refine ⟨?_, ?_⟩
         ·
          refine ⟨_, rfl, rfl, by kernel_rfl, ?_⟩
          rintro D ⟨b22, A23, c24, b25, A26, c27⟩ a z S F
          refine ⟨by kernel_rfl, ?_⟩
          exact op_append S 2 _ _ _ 3 (.int .i64 0) 1 8 N ([s0.to] : List Int) iC_i64 (some ⟨b22, 0, none⟩) 1 F iC_len_i64 (fun _ => rfl) rfl rfl (by kernel_rfl) (by kernel_rfl) rfl rfl rfl (by kernel_rfl) (by kernel_rfl) (row_none (S.rowOf (i := 11) rfl)) (src_row (S.rowOf (i := 11) rfl)) (by first | omega | (simp <;> omega)) fun y29 y30 z S => ⟨(b22, y29, y30, b25, A26, c27), rfl, ⟨rfl, rfl, rfl, rfl, rfl, rfl, rfl, rfl, rfl, trivial, rfl, rfl, rfl, rfl, rfl, rfl, rfl, trivial, trivial, trivial, trivial, trivial, trivial, trivial, trivial⟩, S⟩
         refine ⟨?_, ?_⟩
         ·
          refine ⟨_, rfl, rfl, by kernel_rfl, ?_⟩
          rintro D ⟨b22, A23, c24, b25, A26, c27⟩ a z S F
          refine ⟨by kernel_rfl, ?_⟩
          exact op_load _ _ (some ⟨s, 0, none⟩) 4 (.slice Am E.length cm) F rfl (by kernel_rfl) (by kernel_rfl) (cBox S 1 rfl (j := 4) rfl) (⟨(b22, A23, c24, b25, A26, c27), rfl, (SameB.refl _ _ rfl), S⟩)
         refine ⟨?_, ?_⟩
         ·
          refine ⟨_, rfl, rfl, by kernel_rfl, ?_⟩
          rintro D ⟨b22, A23, c24, b25, A26, c27⟩ a z S F
          refine ⟨by kernel_rfl, ?_⟩
          exact op_load _ _ (some ⟨b19, 0, none⟩) 0 (.int .i64 s0.edge) F rfl (by kernel_rfl) (by kernel_rfl) (cBox S 10 rfl (j := 0) rfl) (⟨(b22, A23, c24, b25, A26, c27), rfl, (SameB.refl _ _ rfl), S⟩)
         refine ⟨?_, ?_⟩
         ·
          refine ⟨_, rfl, rfl, by kernel_rfl, ?_⟩
          rintro D ⟨b22, A23, c24, b25, A26, c27⟩ a z S F
          refine ⟨by kernel_rfl, ?_⟩
          exact op_buildSliceF S 12 rfl _ 1 _ 3 1 iC_i64 ([s0.edge] : List Int) F rfl (by kernel_rfl) (by kernel_rfl) (by kernel_rfl) (by unfold maxLen; omega) fun y31 z S => ⟨(b22, A23, c24, y31, A26, c27), rfl, ⟨rfl, rfl, rfl, rfl, rfl, rfl, rfl, rfl, rfl, rfl, rfl, rfl, rfl, rfl, rfl, rfl, trivial, trivial, trivial, trivial, trivial, trivial, trivial, trivial, trivial⟩, S⟩
         refine ⟨?_, ?_⟩
         ·
          refine ⟨_, rfl, rfl, by kernel_rfl, ?_⟩
          rintro D ⟨b22, A23, c24, b25, A26, c27⟩ a z S F
          refine ⟨by kernel_rfl, ?_⟩
          exact op_append S 3 _ _ _ 3 (.int .i64 0) 1 8 E ([s0.edge] : List Int) iC_i64 (some ⟨b25, 0, none⟩) 1 F iC_len_i64 (fun _ => rfl) rfl rfl (by kernel_rfl) (by kernel_rfl) rfl rfl rfl (by kernel_rfl) (by kernel_rfl) (row_none (S.rowOf (i := 12) rfl)) (src_row (S.rowOf (i := 12) rfl)) (by first | omega | (simp <;> omega)) fun y32 y33 z S => ⟨(b22, A23, c24, b25, y32, y33), rfl, ⟨rfl, rfl, rfl, rfl, rfl, rfl, rfl, rfl, rfl, rfl, rfl, rfl, rfl, rfl, rfl, rfl, rfl, trivial, trivial, trivial, trivial, trivial, trivial, trivial, trivial⟩, S⟩
         refine ⟨?_, ?_⟩
         ·
          refine ⟨_, rfl, rfl, by kernel_rfl, ?_⟩
          rintro D ⟨b22, A23, c24, b25, A26, c27⟩ a z S F
          refine ⟨by kernel_rfl, ?_⟩
          exact op_storeB S 1 _ _ _ s 3 (.slice A23 ((N ++ ([s0.to] : List Int)).length) c24) F rfl rfl (by kernel_rfl) (by kernel_rfl) (by kernel_rfl) (by kernel_rfl) (by kernel_rfl) fun z S => ⟨(b22, A23, c24, b25, A26, c27), rfl, (SameB.refl _ _ rfl), S⟩
         refine ⟨?_, ?_⟩
         ·
          refine ⟨_, rfl, rfl, by kernel_rfl, ?_⟩
          rintro D ⟨b22, A23, c24, b25, A26, c27⟩ a z S F
          refine ⟨by kernel_rfl, ?_⟩
          exact op_storeB S 1 _ _ _ s 4 (.slice A26 ((E ++ ([s0.edge] : List Int)).length) c27) F rfl rfl (by kernel_rfl) (by kernel_rfl) (by kernel_rfl) (by kernel_rfl) (by kernel_rfl) fun z S => ⟨(b22, A23, c24, b25, A26, c27), rfl, (SameB.refl _ _ rfl), S⟩
         trivial
        ·
         rintro ⟨b22, A23, c24, b25, A26, c27⟩ a z F S
         have F := F.sub (l := [(0, .pointer (some ⟨s, 0, none⟩)), (49, .slice A13 ((stepsP x (N.getLastD 0)).length) c14), (50, .int .i64 ((stepsP x (N.getLastD 0)).length : Nat)), (51, .int .i64 (j : Nat))]) ⟨by kernel_rfl, by kernel_rfl, by kernel_rfl, by kernel_rfl, trivial⟩
         have S : Sat w z [rest w G, box s 113 [.slice As x.spots.length cs, .slice Ae x.edges.length ce, .int .i64 to, .slice A23 ((N ++ ([s0.to] : List Int)).length) c24, .slice A26 ((E ++ ([s0.edge] : List Int)).length) c27, .func (.func 55) #[] #[.pointer (some ⟨bw, 0, none⟩), .pointer (some ⟨ba, 0, none⟩), .pointer (some ⟨bo, 0, none⟩)]], row 3 1 (.slice A23 ((N ++ ([s0.to] : List Int)).length) c24) ((N ++ ([s0.to] : List Int)).length) ((N ++ ([s0.to] : List Int)).flatMap iC_i64), row 3 1 (.slice A26 ((E ++ ([s0.edge] : List Int)).length) c27) ((E ++ ([s0.edge] : List Int)).length) ((E ++ ([s0.edge] : List Int)).flatMap iC_i64), box bo 34 [.slice Ar R1.length cr], row 47 3 (.slice Ar R1.length cr) R1.length (R1.flatMap rtC), bag (R1.flatMap rtRows), box bw 32 [.slice As x.spots.length cs, .slice Ae x.edges.length ce], box ba 26 [.int .u64 am], row 133 5 (.slice A13 ((stepsP x (N.getLastD 0)).length) c14) ((stepsP x (N.getLastD 0)).length) ((stepsP x (N.getLastD 0)).flatMap stC), box b19 133 [.int .i64 s0.edge, .int .i64 s0.to, .int .u64 s0.can, .int .u64 s0.base, .int .u64 s0.rate], row 3 1 (.slice (some ⟨b22, 0, none⟩) 1 1) 1 (([s0.to] : List Int).flatMap iC_i64), row 3 1 (.slice (some ⟨b25, 0, none⟩) 1 1) 1 (([s0.edge] : List Int).flatMap iC_i64)] := S
         refine then_n ?_
         refine s_reg ?_
         refine l_pure 1 (fun L => (84, .pointer (some ⟨s, 0, none⟩)) :: L) F (by kernel_rfl) fun a F => ?_
         obtain ⟨G9, g9, hin9, hlt9, k9⟩ := S.frameB [1, 2, 3, 4, 5, 6, 7, 8] (by decide) rfl
         refine l_do F rfl rfl (op_fn F (by kernel_rfl) (ih _ G9 bo bw ba As cs Ae ce x ⟨h.s.mono (src_rest S (i := 0) rfl h.s.src gs), h.e.mono (src_rest S (i := 0) rfl h.e.src ge)⟩ ok (InG.rest hin9 0 (by decide) rfl gs) (InG.rest hin9 0 (by decide) rfl ge) am hua to s (N ++ ([s0.to] : List Int)) (E ++ ([s0.edge] : List Int)) (way_snoc hw (List.mem_of_getElem? hs)) (by simp; omega) (by simp; omega) A23 c24 A26 c27 Ar cr R1 hRl g9) ?_)
         rintro e z9 ⟨A34, c35, A36, c37, A38, c39, R2, on2, rfl, hon2, hR2, g⟩
         have S : Sat w z9 [rest w G, box s 113 [.slice As x.spots.length cs, .slice Ae x.edges.length ce, .int .i64 to, .slice A34 ((N ++ ([s0.to] : List Int)).length) c35, .slice A36 ((E ++ ([s0.edge] : List Int)).length) c37, .func (.func 55) #[] #[.pointer (some ⟨bw, 0, none⟩), .pointer (some ⟨ba, 0, none⟩), .pointer (some ⟨bo, 0, none⟩)]], row 3 1 (.slice A34 ((N ++ ([s0.to] : List Int)).length) c35) ((N ++ ([s0.to] : List Int)).length) ((N ++ ([s0.to] : List Int)).flatMap iC_i64), row 3 1 (.slice A36 ((E ++ ([s0.edge] : List Int)).length) c37) ((E ++ ([s0.edge] : List Int)).length) ((E ++ ([s0.edge] : List Int)).flatMap iC_i64), box bo 34 [.slice A38 R2.length c39], row 47 3 (.slice A38 R2.length c39) R2.length (R2.flatMap rtC), bag (R2.flatMap rtRows), box bw 32 [.slice As x.spots.length cs, .slice Ae x.edges.length ce], box ba 26 [.int .u64 am], row 133 5 (.slice A13 ((stepsP x (N.getLastD 0)).length) c14) ((stepsP x (N.getLastD 0)).length) ((stepsP x (N.getLastD 0)).flatMap stC), box b19 133 [.int .i64 s0.edge, .int .i64 s0.to, .int .u64 s0.can, .int .u64 s0.base, .int .u64 s0.rate], row 3 1 (.slice (some ⟨b22, 0, none⟩) 1 1) 1 (([s0.to] : List Int).flatMap iC_i64), row 3 1 (.slice (some ⟨b25, 0, none⟩) 1 1) 1 (([s0.edge] : List Int).flatMap iC_i64)] := k9 z9 [box s 113 [.slice As x.spots.length cs, .slice Ae x.edges.length ce, .int .i64 to, .slice A34 ((N ++ ([s0.to] : List Int)).length) c35, .slice A36 ((E ++ ([s0.edge] : List Int)).length) c37, .func (.func 55) #[] #[.pointer (some ⟨bw, 0, none⟩), .pointer (some ⟨ba, 0, none⟩), .pointer (some ⟨bo, 0, none⟩)]], row 3 1 (.slice A34 ((N ++ ([s0.to] : List Int)).length) c35) ((N ++ ([s0.to] : List Int)).length) ((N ++ ([s0.to] : List Int)).flatMap iC_i64), row 3 1 (.slice A36 ((E ++ ([s0.edge] : List Int)).length) c37) ((E ++ ([s0.edge] : List Int)).length) ((E ++ ([s0.edge] : List Int)).flatMap iC_i64), box bo 34 [.slice A38 R2.length c39], row 47 3 (.slice A38 R2.length c39) R2.length (R2.flatMap rtC), bag (R2.flatMap rtRows), box bw 32 [.slice As x.spots.length cs, .slice Ae x.edges.length ce], box ba 26 [.int .u64 am]] rfl g
         clear g g9 k9 hin9 hlt9
         refine ⟨_, rfl, ?_⟩
         intro a F
         refine l_pure 1 (fun L => (6, .bool on2) :: L) F (by kernel_rfl) fun a F => ?_
         refine l_then ?_
         refine wp_seq ?_
         refine region_gx (fun D => fun (_ : Unit) => [rest w G, bif D 29 then box s 113 [.slice As x.spots.length cs, .slice Ae x.edges.length ce, .int .i64 to, .slice A34 N.length c35, .slice A36 E.length c37, .func (.func 55) #[] #[.pointer (some ⟨bw, 0, none⟩), .pointer (some ⟨ba, 0, none⟩), .pointer (some ⟨bo, 0, none⟩)]] else (bif D 26 then box s 113 [.slice As x.spots.length cs, .slice Ae x.edges.length ce, .int .i64 to, .slice A34 N.length c35, .slice A36 ((E ++ ([s0.edge] : List Int)).length) c37, .func (.func 55) #[] #[.pointer (some ⟨bw, 0, none⟩), .pointer (some ⟨ba, 0, none⟩), .pointer (some ⟨bo, 0, none⟩)]] else box s 113 [.slice As x.spots.length cs, .slice Ae x.edges.length ce, .int .i64 to, .slice A34 ((N ++ ([s0.to] : List Int)).length) c35, .slice A36 ((E ++ ([s0.edge] : List Int)).length) c37, .func (.func 55) #[] #[.pointer (some ⟨bw, 0, none⟩), .pointer (some ⟨ba, 0, none⟩), .pointer (some ⟨bo, 0, none⟩)]]), row 3 1 (.slice A34 ((N ++ ([s0.to] : List Int)).length) c35) ((N ++ ([s0.to] : List Int)).length) ((N ++ ([s0.to] : List Int)).flatMap iC_i64), row 3 1 (.slice A36 ((E ++ ([s0.edge] : List Int)).length) c37) ((E ++ ([s0.edge] : List Int)).length) ((E ++ ([s0.edge] : List Int)).flatMap iC_i64), box bo 34 [.slice A38 R2.length c39], row 47 3 (.slice A38 R2.length c39) R2.length (R2.flatMap rtC), bag (R2.flatMap rtRows), box bw 32 [.slice As x.spots.length cs, .slice Ae x.edges.length ce], box ba 26 [.int .u64 am], row 133 5 (.slice A13 ((stepsP x (N.getLastD 0)).length) c14) ((stepsP x (N.getLastD 0)).length) ((stepsP x (N.getLastD 0)).flatMap stC), box b19 133 [.int .i64 s0.edge, .int .i64 s0.to, .int .u64 s0.can, .int .u64 s0.base, .int .u64 s0.rate], row 3 1 (.slice (some ⟨b22, 0, none⟩) 1 1) 1 (([s0.to] : List Int).flatMap iC_i64), row 3 1 (.slice (some ⟨b25, 0, none⟩) 1 1) 1 (([s0.edge] : List Int).flatMap iC_i64)]) (fun (_ : Unit) => [.pointer (some ⟨s, 0, none⟩), .pointer (some ⟨s, 0, none⟩), .pointer (some ⟨s, 0, none⟩), .pointer (some ⟨s, 0, none⟩), .pointer (some ⟨s, 3, none⟩), .slice A34 ((N ++ ([s0.to] : List Int)).length) c35, .pointer (some ⟨s, 0, none⟩), .pointer (some ⟨s, 0, none⟩), .pointer (some ⟨s, 3, none⟩), .slice A34 ((N ++ ([s0.to] : List Int)).length) c35, .int .i64 ((N ++ ([s0.to] : List Int)).length : Nat), .int .i64 (N.length : Nat), .slice A34 N.length c35, .pointer (some ⟨s, 0, none⟩), .pointer (some ⟨s, 0, none⟩), .pointer (some ⟨s, 4, none⟩), .slice A36 ((E ++ ([s0.edge] : List Int)).length) c37, .pointer (some ⟨s, 0, none⟩), .pointer (some ⟨s, 0, none⟩), .pointer (some ⟨s, 4, none⟩), .slice A36 ((E ++ ([s0.edge] : List Int)).length) c37, .int .i64 ((E ++ ([s0.edge] : List Int)).length : Nat), .int .i64 (E.length : Nat), .slice A36 E.length c37, .pointer (some ⟨s, 0, none⟩), .pointer (some ⟨s, 3, none⟩), undef, .pointer (some ⟨s, 0, none⟩), .pointer (some ⟨s, 4, none⟩), undef]) [(5, [], [12, 26, 29]), (9, [], [11, 12, 26, 29]), (11, [9], [12, 26, 29]), (12, [5, 9, 11], [26, 29]), (16, [], [23, 26, 29]), (20, [], [22, 23, 26, 29]), (22, [20], [23, 29]), (23, [16, 20, 22], [29]), (26, [5, 9, 11, 12, 16, 20], [29]), (29, [5, 9, 11, 12, 16, 20, 22, 23, 26], [])] () rfl (by kernel_rfl) (by kernel_rfl) F S.drew ?_ ?_ ?_ ?_ ?_
         · rintro ⟨⟩; rfl
         · rintro ⟨⟩; kernel_rfl
         ·
          intro D D' x h
          cases x
          simp only [h 26 (by decide), h 29 (by decide)]
         ·
          refine ⟨?_, ?_⟩
          ·
           refine ⟨_, rfl, rfl, by kernel_rfl, ?_⟩
           rintro D ⟨⟩ a z S F
           refine ⟨by kernel_rfl, ?_⟩
           exact op_load _ _ (some ⟨s, 0, none⟩) 3 (.slice A34 ((N ++ ([s0.to] : List Int)).length) c35) F rfl (by kernel_rfl) (by kernel_rfl) (cBox S 1 rfl (j := 3) rfl) (⟨(), rfl, (SameB.refl _ _ rfl), S⟩)
          refine ⟨?_, ?_⟩
          ·
           refine ⟨_, rfl, rfl, by kernel_rfl, ?_⟩
           rintro D ⟨⟩ a z S F
           refine ⟨by kernel_rfl, ?_⟩
           exact op_load _ _ (some ⟨s, 0, none⟩) 3 (.slice A34 ((N ++ ([s0.to] : List Int)).length) c35) F rfl (by kernel_rfl) (by kernel_rfl) (cBox S 1 rfl (j := 3) rfl) (⟨(), rfl, (SameB.refl _ _ rfl), S⟩)
          refine ⟨?_, ?_⟩
          ·
           refine ⟨_, rfl, rfl, by kernel_rfl, ?_⟩
           rintro D ⟨⟩ a z S F
           refine ⟨by kernel_rfl, ?_⟩
           exact op_pure F (v0 := .int .i64 (IntKind.wrap .i64 (((N ++ ([s0.to] : List Int)).length : Nat) - 1))) (v := .int .i64 (N.length : Nat)) (by kernel_rfl) (wrn_i64 (by simp) (by omega) (by omega)) ⟨(), rfl, (SameB.refl _ _ rfl), S⟩
          refine ⟨?_, ?_⟩
          ·
           refine ⟨_, rfl, rfl, by kernel_rfl, ?_⟩
           rintro D ⟨⟩ a z S F
           refine ⟨by kernel_rfl, ?_⟩
           exact op_sliceH _ 3 _ _ A34 ((N ++ ([s0.to] : List Int)).length) c35 N.length 1 .i64 F rfl (by kernel_rfl) (by kernel_rfl) (by kernel_rfl) (by kernel_rfl) (Nat.le_trans (by simp) (row_cap S 2 rfl)) (⟨(), rfl, (SameB.refl _ _ rfl), S⟩)
          refine ⟨?_, ?_⟩
          ·
           refine ⟨_, rfl, rfl, by kernel_rfl, ?_⟩
           rintro D ⟨⟩ a z S F
           refine ⟨by kernel_rfl, ?_⟩
           exact op_load _ _ (some ⟨s, 0, none⟩) 4 (.slice A36 ((E ++ ([s0.edge] : List Int)).length) c37) F rfl (by kernel_rfl) (by kernel_rfl) (cBox S 1 rfl (j := 4) rfl) (⟨(), rfl, (SameB.refl _ _ rfl), S⟩)
          refine ⟨?_, ?_⟩
          ·
           refine ⟨_, rfl, rfl, by kernel_rfl, ?_⟩
           rintro D ⟨⟩ a z S F
           refine ⟨by kernel_rfl, ?_⟩
           exact op_load _ _ (some ⟨s, 0, none⟩) 4 (.slice A36 ((E ++ ([s0.edge] : List Int)).length) c37) F rfl (by kernel_rfl) (by kernel_rfl) (cBox S 1 rfl (j := 4) rfl) (⟨(), rfl, (SameB.refl _ _ rfl), S⟩)
          refine ⟨?_, ?_⟩
          ·
           refine ⟨_, rfl, rfl, by kernel_rfl, ?_⟩
           rintro D ⟨⟩ a z S F
           refine ⟨by kernel_rfl, ?_⟩
           exact op_pure F (v0 := .int .i64 (IntKind.wrap .i64 (((E ++ ([s0.edge] : List Int)).length : Nat) - 1))) (v := .int .i64 (E.length : Nat)) (by kernel_rfl) (wrn_i64 (by simp) (by omega) (by omega)) ⟨(), rfl, (SameB.refl _ _ rfl), S⟩
          refine ⟨?_, ?_⟩
          ·
           refine ⟨_, rfl, rfl, by kernel_rfl, ?_⟩
           rintro D ⟨⟩ a z S F
           refine ⟨by kernel_rfl, ?_⟩
           exact op_sliceH _ 3 _ _ A36 ((E ++ ([s0.edge] : List Int)).length) c37 E.length 1 .i64 F rfl (by kernel_rfl) (by kernel_rfl) (by kernel_rfl) (by kernel_rfl) (Nat.le_trans (by simp) (row_cap S 3 rfl)) (⟨(), rfl, (SameB.refl _ _ rfl), S⟩)
          refine ⟨?_, ?_⟩
          ·
           refine ⟨_, rfl, rfl, by kernel_rfl, ?_⟩
           rintro D ⟨⟩ a z S F
           refine ⟨by kernel_rfl, ?_⟩
           exact op_storeB S 1 _ _ _ s 3 (.slice A34 N.length c35) F rfl rfl (by kernel_rfl) (by kernel_rfl) (by kernel_rfl) (by kernel_rfl) (by kernel_rfl) fun z S => ⟨(), rfl, (SameB.refl _ _ rfl), S⟩
          refine ⟨?_, ?_⟩
          ·
           refine ⟨_, rfl, rfl, by kernel_rfl, ?_⟩
           rintro D ⟨⟩ a z S F
           refine ⟨by kernel_rfl, ?_⟩
           exact op_storeB S 1 _ _ _ s 4 (.slice A36 E.length c37) F rfl rfl (by kernel_rfl) (by kernel_rfl) (by kernel_rfl) (by kernel_rfl) (by kernel_rfl) fun z S => ⟨(), rfl, (SameB.refl _ _ rfl), S⟩
          trivial
         ·
          rintro ⟨⟩ a z F S
          have F := F.sub (l := [(0, .pointer (some ⟨s, 0, none⟩)), (6, .bool on2), (49, .slice A13 ((stepsP x (N.getLastD 0)).length) c14), (50, .int .i64 ((stepsP x (N.getLastD 0)).length : Nat)), (51, .int .i64 (j : Nat))]) ⟨by kernel_rfl, by kernel_rfl, by kernel_rfl, by kernel_rfl, by kernel_rfl, trivial⟩
          have S : Sat w z [rest w G, box s 113 [.slice As x.spots.length cs, .slice Ae x.edges.length ce, .int .i64 to, .slice A34 N.length c35, .slice A36 E.length c37, .func (.func 55) #[] #[.pointer (some ⟨bw, 0, none⟩), .pointer (some ⟨ba, 0, none⟩), .pointer (some ⟨bo, 0, none⟩)]], row 3 1 (.slice A34 ((N ++ ([s0.to] : List Int)).length) c35) ((N ++ ([s0.to] : List Int)).length) ((N ++ ([s0.to] : List Int)).flatMap iC_i64), row 3 1 (.slice A36 ((E ++ ([s0.edge] : List Int)).length) c37) ((E ++ ([s0.edge] : List Int)).length) ((E ++ ([s0.edge] : List Int)).flatMap iC_i64), box bo 34 [.slice A38 R2.length c39], row 47 3 (.slice A38 R2.length c39) R2.length (R2.flatMap rtC), bag (R2.flatMap rtRows), box bw 32 [.slice As x.spots.length cs, .slice Ae x.edges.length ce], box ba 26 [.int .u64 am], row 133 5 (.slice A13 ((stepsP x (N.getLastD 0)).length) c14) ((stepsP x (N.getLastD 0)).length) ((stepsP x (N.getLastD 0)).flatMap stC), box b19 133 [.int .i64 s0.edge, .int .i64 s0.to, .int .u64 s0.can, .int .u64 s0.base, .int .u64 s0.rate], row 3 1 (.slice (some ⟨b22, 0, none⟩) 1 1) 1 (([s0.to] : List Int).flatMap iC_i64), row 3 1 (.slice (some ⟨b25, 0, none⟩) 1 1) 1 (([s0.edge] : List Int).flatMap iC_i64)] := S
          have S := S.cutRecs 2 (Y := N) iC_len_i64 rfl (by simp) (by simp)
          have S := S.cutRecs 3 (Y := E) iC_len_i64 rfl (by simp) (by simp)
          have S : Sat w z [rest w G, box s 113 [.slice As x.spots.length cs, .slice Ae x.edges.length ce, .int .i64 to, .slice A34 N.length c35, .slice A36 E.length c37, .func (.func 55) #[] #[.pointer (some ⟨bw, 0, none⟩), .pointer (some ⟨ba, 0, none⟩), .pointer (some ⟨bo, 0, none⟩)]], row 3 1 (.slice A34 N.length c35) N.length (N.flatMap iC_i64), row 3 1 (.slice A36 E.length c37) E.length (E.flatMap iC_i64), box bo 34 [.slice A38 R2.length c39], row 47 3 (.slice A38 R2.length c39) R2.length (R2.flatMap rtC), bag (R2.flatMap rtRows), box bw 32 [.slice As x.spots.length cs, .slice Ae x.edges.length ce], box ba 26 [.int .u64 am], row 133 5 (.slice A13 ((stepsP x (N.getLastD 0)).length) c14) ((stepsP x (N.getLastD 0)).length) ((stepsP x (N.getLastD 0)).flatMap stC), box b19 133 [.int .i64 s0.edge, .int .i64 s0.to, .int .u64 s0.can, .int .u64 s0.base, .int .u64 s0.rate], row 3 1 (.slice (some ⟨b22, 0, none⟩) 1 1) 1 (([s0.to] : List Int).flatMap iC_i64), row 3 1 (.slice (some ⟨b25, 0, none⟩) 1 1) 1 (([s0.edge] : List Int).flatMap iC_i64)] := S
          refine then_n ?_
          refine s_reg ?_
          refine l_pure 1 (fun L => (114, .bool on2) :: L) F (by kernel_rfl) fun a F => ?_
          cases on2 with
          | false =>
           skip
           refine l_pure 1 (fun L => (115, .bool true) :: L) F (by kernel_rfl) fun a F => ?_
           refine l_then ?_
           refine c_t F rfl ?_
           refine s_reg ?_
           refine l_pure 1 (fun L => (2, .bool false) :: L) F (by kernel_rfl) fun a F => ?_
           refine l_then ?_
           refine wp_ret ?_
           refine inb_r (then_r (then_r (inb_r (then_r (?_)))))
           exact fin F [.tmp 2] [.bool false] rfl ⟨by kernel_rfl, trivial⟩ (.bool false) rfl ⟨A34, c35, A36, c37, A38, c39, R2, false, rfl, hon2, (by rw [waysJ_end (by rw [List.length_map]; exact hR) hto (by omega), hR2, hRj, ← waysJ_go hs (of_decide_eq_false hb21)]; refine (waysJ_stop ?_).symm; rw [waysJ_go hs (of_decide_eq_false hb21), ← hRj, ← hR2, List.length_map]; exact Nat.le_of_not_lt (of_decide_eq_false hon2.symm)), S.pick [1, 2, 3, 4, 5, 6, 7, 8, 0] (by decide)⟩
          | true =>
           skip
           refine l_pure 1 (fun L => (115, .bool false) :: L) F (by kernel_rfl) fun a F => ?_
           refine l_then ?_
           refine c_f F rfl ?_
           refine wp_skip ?_
           refine inb_n ?_
           refine then_n ?_
           refine wp_region_list ?_
           refine l_do F rfl rfl (op_pure F (v0 := .int .i64 (IntKind.wrap .i64 ((j : Nat) + 1))) (v := .int .i64 (j + 1 : Nat)) (by kernel_rfl) (wrn_i64 (by omega) (by omega) (by omega)) fun a F => ?_)
           refine l_pure 1 (fun L => (51, .int .i64 (j + 1 : Nat)) :: L) F (by kernel_rfl) fun a F => ?_
           refine l_then ?_
           exact ⟨_, (by omega), j + 1, A34, c35, A36, c37, A38, c39, R2, rfl, (by omega), (by rw [hR2, hRj]; exact (waysJ_go hs (of_decide_eq_false hb21)).symm), (of_decide_eq_true hon2.symm), F.sub ⟨by kernel_rfl, by kernel_rfl, by kernel_rfl, by kernel_rfl, trivial⟩, (S.pick [0, 1, 2, 3, 4, 5, 6, 7, 8, 9] (by decide))⟩
      | true =>
       refine region_gx (fun D => fun (_ : Unit) => [rest w G, box s 113 [.slice As x.spots.length cs, .slice Ae x.edges.length ce, .int .i64 to, .slice An N.length cn, .slice Am E.length cm, .func (.func 55) #[] #[.pointer (some ⟨bw, 0, none⟩), .pointer (some ⟨ba, 0, none⟩), .pointer (some ⟨bo, 0, none⟩)]], row 3 1 (.slice An N.length cn) N.length (N.flatMap iC_i64), row 3 1 (.slice Am E.length cm) E.length (E.flatMap iC_i64), box bo 34 [.slice Ar R1.length cr], row 47 3 (.slice Ar R1.length cr) R1.length (R1.flatMap rtC), bag (R1.flatMap rtRows), box bw 32 [.slice As x.spots.length cs, .slice Ae x.edges.length ce], box ba 26 [.int .u64 am], row 133 5 (.slice A13 ((stepsP x (N.getLastD 0)).length) c14) ((stepsP x (N.getLastD 0)).length) ((stepsP x (N.getLastD 0)).flatMap stC), box b19 133 [.int .i64 s0.edge, .int .i64 s0.to, .int .u64 s0.can, .int .u64 s0.base, .int .u64 s0.rate]]) (fun (_ : Unit) => [.pointer (some ⟨s, 0, none⟩), .pointer (some ⟨s, 0, none⟩), .pointer (some ⟨s, 3, none⟩), .slice An N.length cn, .pointer (some ⟨b19, 1, none⟩), .int .i64 s0.to, .bool true]) [(3, [], [6]), (5, [], [6]), (6, [3, 5], [])] () rfl (by kernel_rfl) (by kernel_rfl) F S.drew ?_ ?_ ?_ ?_ ?_
       · rintro ⟨⟩; rfl
       · rintro ⟨⟩; kernel_rfl
       ·
        intro D D' x h
        cases x
        rfl
       ·
        refine ⟨?_, ?_⟩
        ·
         refine ⟨_, rfl, rfl, by kernel_rfl, ?_⟩
         rintro D ⟨⟩ a z S F
         refine ⟨by kernel_rfl, ?_⟩
         exact op_load _ _ (some ⟨s, 0, none⟩) 3 (.slice An N.length cn) F rfl (by kernel_rfl) (by kernel_rfl) (cBox S 1 rfl (j := 3) rfl) (⟨(), rfl, (SameB.refl _ _ rfl), S⟩)
        refine ⟨?_, ?_⟩
        ·
         refine ⟨_, rfl, rfl, by kernel_rfl, ?_⟩
         rintro D ⟨⟩ a z S F
         refine ⟨by kernel_rfl, ?_⟩
         exact op_load _ _ (some ⟨b19, 0, none⟩) 1 (.int .i64 s0.to) F rfl (by kernel_rfl) (by kernel_rfl) (cBox S 10 rfl (j := 1) rfl) (⟨(), rfl, (SameB.refl _ _ rfl), S⟩)
        refine ⟨?_, ?_⟩
        ·
         refine ⟨_, rfl, rfl, by kernel_rfl, ?_⟩
         rintro D ⟨⟩ a z S F
         refine ⟨by kernel_rfl, ?_⟩
         refine op_fn F (by kernel_rfl) (contains_any _ An cn N s0.to (Recs.ofRow (S.rowOf (i := 2) rfl) (by omega)) (by omega)) ?_
         rintro e z ⟨rfl, hb⟩
         have S := S.grow hb
         exact ⟨_, rfl, (), by rw [hb21]; rfl, (SameB.refl _ _ rfl), S⟩
        trivial
       ·
        rintro ⟨⟩ a z F S
        have F := F.sub (l := [(0, .pointer (some ⟨s, 0, none⟩)), (5, .pointer (some ⟨b19, 0, none⟩)), (49, .slice A13 ((stepsP x (N.getLastD 0)).length) c14), (50, .int .i64 ((stepsP x (N.getLastD 0)).length : Nat)), (51, .int .i64 (j : Nat)), (61, .bool true)]) ⟨by kernel_rfl, by kernel_rfl, by kernel_rfl, by kernel_rfl, by kernel_rfl, by kernel_rfl, trivial⟩
        have S : Sat w z [rest w G, box s 113 [.slice As x.spots.length cs, .slice Ae x.edges.length ce, .int .i64 to, .slice An N.length cn, .slice Am E.length cm, .func (.func 55) #[] #[.pointer (some ⟨bw, 0, none⟩), .pointer (some ⟨ba, 0, none⟩), .pointer (some ⟨bo, 0, none⟩)]], row 3 1 (.slice An N.length cn) N.length (N.flatMap iC_i64), row 3 1 (.slice Am E.length cm) E.length (E.flatMap iC_i64), box bo 34 [.slice Ar R1.length cr], row 47 3 (.slice Ar R1.length cr) R1.length (R1.flatMap rtC), bag (R1.flatMap rtRows), box bw 32 [.slice As x.spots.length cs, .slice Ae x.edges.length ce], box ba 26 [.int .u64 am], row 133 5 (.slice A13 ((stepsP x (N.getLastD 0)).length) c14) ((stepsP x (N.getLastD 0)).length) ((stepsP x (N.getLastD 0)).flatMap stC), box b19 133 [.int .i64 s0.edge, .int .i64 s0.to, .int .u64 s0.can, .int .u64 s0.base, .int .u64 s0.rate]] := S
        refine then_n ?_
        refine c_t F rfl ?_
        refine wp_exit ?_
        refine then_x ?_
        refine inb_x ?_
        refine then_n ?_
        refine wp_region_list ?_
        refine l_do F rfl rfl (op_pure F (v0 := .int .i64 (IntKind.wrap .i64 ((j : Nat) + 1))) (v := .int .i64 (j + 1 : Nat)) (by kernel_rfl) (wrn_i64 (by omega) (by omega) (by omega)) fun a F => ?_)
        refine l_pure 1 (fun L => (51, .int .i64 (j + 1 : Nat)) :: L) F (by kernel_rfl) fun a F => ?_
        refine l_then ?_
        exact ⟨_, (by omega), j + 1, An, cn, Am, cm, Ar, cr, R1, rfl, (by omega), (by rw [hRj]; exact (waysJ_in hs (of_decide_eq_true hb21)).symm), hRl, F.sub ⟨by kernel_rfl, by kernel_rfl, by kernel_rfl, by kernel_rfl, trivial⟩, (S.pick [0, 1, 2, 3, 4, 5, 6, 7, 8, 9] (by decide))⟩
     ·
      skip
      refine l_do F rfl rfl (op_pure F (v0 := .bool (decide (((j : Nat) : Int) < (((stepsP x (N.getLastD 0)).length : Nat) : Int)))) (v := .bool false) (by kernel_rfl) (lssF ht18) fun a F => ?_)
      refine l_then ?_
      refine wp_seq ?_
      refine c_f F rfl ?_
      refine wp_exit ?_
      refine then_x ?_
      refine then_x ?_
      refine inb_x ?_
      refine then_n ?_
      refine s_reg ?_
      refine l_pure 1 (fun L => (2, .bool true) :: L) F (by kernel_rfl) fun a F => ?_
      refine l_then ?_
      refine wp_ret ?_
      exact fin F [.tmp 2] [.bool true] rfl ⟨by kernel_rfl, trivial⟩ (.bool true) rfl ⟨An, cn, Am, cm, Ar, cr, R1, true, rfl, (decide_eq_true hRl).symm, (by rw [waysJ_end (by rw [List.length_map]; exact hR) hto (by omega), hRj, show j = (stepsP x (N.getLastD 0)).length from by omega]), S.pick [1, 2, 3, 4, 5, 6, 7, 8, 0] (by decide)⟩
theorem seek_any : ∀ f, SeekOk f
  | 0 => by
    intro w G bo bw ba As cs Ae ce x h ok gs ge am hua to s N E hw hl hf8 An cn Am cm Ar cr R hR hS
    omega
  | f + 1 => seek_step (seek_any f)
end Go.Proofs.Ytcfpbemoocegfaa
