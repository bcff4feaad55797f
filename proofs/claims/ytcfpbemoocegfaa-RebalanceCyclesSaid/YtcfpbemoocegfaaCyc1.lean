/- Walks over plans: the way out and back. -/
import Derived.Test.YtcfpbemoocegfaaCyc0
import Derived.Test.YtcfpbemoocegfaaGk
import Derived.Test.YtcfpbemoocegfaaWnew
import Derived.Test.YtcfpbemoocegfaaWebTo
import Derived.Test.YtcfpbemoocegfaaReadWeb
namespace Go.Proofs.Ytcfpbemoocegfaa
set_option linter.unusedVariables false
set_option linter.unusedSimpArgs false
set_option linter.unnecessarySimpa false
open Go Go.RowKit

theorem Sat.bagSub {w0 w : World} {l : List Asn} (S : Sat w0 w l) (i : Nat) {rs rs' : List RowD} (hi : l[i]? = some (bag rs)) (hs : ∀ r ∈ rs', r ∈ rs) : Sat w0 w (l.set i (bag rs')) := S.turn hi fun F hF =>
  ⟨fun b => ∃ r ∈ rs', r.v.ownBlock = some b, ⟨fun r hr => hF.1 r (hs r hr), fun b => Iff.rfl⟩, fun b ⟨r, hr, hb⟩ => (hF.2 b).2 ⟨r, hs r hr, hb⟩⟩
/-- One row, to be read. -/
def rdRow (A : Option Addr) (c : Nat) (X : List Int) : Asn := bag [⟨26, 1, .slice A X.length c, X.length, X.flatMap iC_u64⟩]
theorem rd_recs {w0 w : World} {l : List Asn} (S : Sat w0 w l) (i : Nat) {A : Option Addr} {c : Nat} {X : List Int} (hi : l[i]? = some (rdRow A c X)) (hl : X.length ≤ 1000) : Recs 1 iC_u64 w A c X := Recs.ofRow (S.bagRow i hi (r := ⟨26, 1, .slice A X.length c, X.length, X.flatMap iC_u64⟩) (by simp)) (by omega)
theorem Sat.rdOfRow {w0 w : World} {l : List Asn} (S : Sat w0 w l) (i : Nat) {A : Option Addr} {c : Nat} {X : List Int} (hi : l[i]? = some (row 26 1 (.slice A X.length c) X.length (X.flatMap iC_u64))) : Sat w0 w (l.set i (rdRow A c X)) := S.turn hi fun F hF => by
  obtain ⟨rfl, hr⟩ := hF
  refine ⟨_, ⟨fun r hr' => ?_, fun b => ?_⟩, fun _ h => h⟩
  · simp at hr'; subst hr'; exact hr
  · simp
theorem Sat.rdOfBag {w0 w : World} {l : List Asn} (S : Sat w0 w l) (i : Nat) {R : List RtM} {m : RtM} (hi : l[i]? = some (bag (R.flatMap rtRows))) (hm : m ∈ R) : Sat w0 w (l.set i (rdRow m.A3 m.c3 m.r.amts)) := S.bagSub i hi fun r hr => by
  simp at hr; subst hr
  exact List.mem_flatMap.2 ⟨m, hm, by simp [rtRows]⟩
set_option maxRecDepth 100000 in
set_option maxHeartbeats 4000000 in
theorem pcycle_at (w : World) (As : Option Addr) (cs : Nat) (Ae : Option Addr) (ce : Nat) (x : Wb) (h : WebAt w As cs Ae ce x) (ok : x.Ok) (node out in_ am : Int) (hua : U64 am) (hl1 : x.spots.length ≤ 1000) (hl2 : x.edges.length ≤ 1000) {r : Rt} {er : Int} (hq : cycP x node out in_ am = (r, er)) : Calls Try.prog 47 #[.agg #[.slice As x.spots.length cs, .slice Ae x.edges.length ce], .int .i64 node, .int .i64 out, .int .i64 in_, .int .u64 am] w fun e w' => ∃ A1 c1 A2 c2 A3 c3, e = .returned (.tuple #[.agg #[.slice A1 r.nodes.length c1, .slice A2 r.edges.length c2, .slice A3 r.amts.length c3, .int .u64 (cFee r am er)], .int .i64 er]) ∧ Sat w w' [rest w (· < w.heap.size), row 3 1 (.slice A1 r.nodes.length c1) r.nodes.length (r.nodes.flatMap iC_i64), row 3 1 (.slice A2 r.edges.length c2) r.edges.length (r.edges.flatMap iC_i64), row 26 1 (.slice A3 r.amts.length c3) r.amts.length (r.amts.flatMap iC_u64)] := by
 refine enter 197 Try.func47 rfl rfl rfl fun a F => ?_
 have S := Sat.pushRest w
 refine s_reg ?_
 refine l_do F rfl rfl (op_box S _ _ (.agg #[.slice As x.spots.length cs, .slice Ae x.edges.length ce]) F rfl (by kernel_rfl) fun b1 z S a F => ?_)
 refine l_do F rfl rfl (op_alloc S _ (.agg #[.slice none 0 0, .slice none 0 0, .slice none 0 0, .int .u64 0]) rfl (by kernel_rfl) fun b2 z S a F => ?_)
 refine l_pure 1 (fun L => (11, .int .i64 0) :: L) F (by kernel_rfl) fun a F => ?_
 refine l_then ?_
 refine wp_seq ?_
 refine s_reg ?_
 refine l_do F rfl rfl (op_loadK _ _ (some ⟨b1, 0, none⟩) 0 [.slice As x.spots.length cs, .slice Ae x.edges.length ce] F rfl (by kernel_rfl) (by kernel_rfl) (by kernel_rfl) (by simp) (cBoxK S 1 rfl 0 (by kernel_rfl)) (fun a F => ?_))
 refine l_do F rfl rfl (op_fn F (by kernel_rfl) (check_any _ As cs Ae ce x (h.move S rfl) ok) ?_)
 rintro e z ⟨rfl, hb⟩
 have S := S.grow hb
 refine ⟨_, rfl, ?_⟩
 intro a F
 refine l_pure 1 (fun L => (12, .int .i64 (chkP x)) :: L) F (by kernel_rfl) fun a F => ?_
 refine l_then ?_
 refine s_reg ?_
 refine l_pure 1 (fun L => (28, .int .i64 (chkP x)) :: L) F (by kernel_rfl) fun a F => ?_
 by_cases ht3 : (chkP x : Int) = (0 : Int)
 ·
  skip
  have hc := ht3
  refine l_do F rfl rfl (op_pure F (v0 := .bool ((chkP x : Int) != (0 : Int))) (v := .bool false) (by kernel_rfl) (neqF ht3) fun a F => ?_)
  refine l_then ?_
  refine c_f F rfl ?_
  refine wp_skip ?_
  refine then_n ?_
  refine cutK 7 (fun a z => ∃ (ko : Nat) (ki : Nat) (eo : Edg) (ei : Edg) (sv : Nat) (tv : Nat) (fst : Int) (lst : Int) (q : Int), (out = (ko : Int)) ∧ (in_ = (ki : Int)) ∧ (CycAt x node am ko ki eo ei sv tv) ∧ (¬ ei.can (1 - tv : Nat) < am) ∧ (overP (ei.base (1 - tv : Nat)) (ei.rate (1 - tv : Nat)) am = (q, 0)) ∧ (eo.endp (1 - sv : Nat) = fst) ∧ (ei.endp (1 - tv : Nat) = lst) ∧ (am ≤ q) ∧ (U64 q) ∧ Fr a 197 [(1, .int .i64 node), (2, .int .i64 out), (3, .int .i64 in_), (4, .int .u64 am), (5, .pointer (some ⟨b1, 0, none⟩)), (10, .pointer (some ⟨b2, 0, none⟩)), (13, .int .i64 (sv : Nat)), (14, .int .i64 fst), (17, .int .i64 lst), (20, .int .u64 q)] ∧ Sat w z [rest w (· < w.heap.size), box b1 32 [.slice As x.spots.length cs, .slice Ae x.edges.length ce], box b2 92 [.slice none 0 0, .slice none 0 0, .slice none 0 0, .int .u64 0]]) ?_ ?_
  ·
   rintro a z ⟨ko, ki, eo, ei, sv, tv, fst, lst, q, hf4, hf5, hf6, hf7, hf8, hf9, hf10, hf11, hf12, F, S⟩
   dsimp only [tailAt]
   have hout := hf4
   subst hout
   have hin := hf5
   subst hin
   have hcy := hf6
   have hroom := hf7
   have hov := hf8
   have hF := hf9
   have hL := hf10
   have hq1 := hf11
   have hqu := hf12
   have heo := hcy.ho
   have hei := hcy.hi
   have hsv2 := hcy.s2
   refine cutK 3 (fun a z => ∃ (bp : Nat) (mid : Rt) (q2 : Int) (D1 : Option Addr) (d1 : Nat) (D2 : Option Addr) (d2 : Nat) (D3 : Option Addr) (d3 : Nat), (cycMid x node fst lst q = (mid, q2, 0)) ∧ (am ≤ q2) ∧ (U64 q2) ∧ (mid.nodes.length ≤ 100) ∧ (mid.edges.length ≤ 100) ∧ (mid.amts.length ≤ 100) ∧ Fr a 197 [(1, .int .i64 node), (2, .int .i64 (ko : Nat)), (3, .int .i64 (ki : Nat)), (4, .int .u64 am), (5, .pointer (some ⟨b1, 0, none⟩)), (10, .pointer (some ⟨b2, 0, none⟩)), (13, .int .i64 (sv : Nat)), (20, .int .u64 q2), (21, .pointer (some ⟨bp, 0, none⟩)), (22, .slice D3 mid.amts.length d3)] ∧ Sat w z [rest w (· < w.heap.size), box b1 32 [.slice As x.spots.length cs, .slice Ae x.edges.length ce], box b2 92 [.slice none 0 0, .slice none 0 0, .slice none 0 0, .int .u64 0], box bp 92 [.slice D1 ((node :: fst :: List.drop 1 mid.nodes : List Int).length) d1, .slice D2 (((ko : Int) :: mid.edges : List Int).length) d2, .slice none 0 0, .int .u64 0], row 3 1 (.slice D1 ((node :: fst :: List.drop 1 mid.nodes : List Int).length) d1) ((node :: fst :: List.drop 1 mid.nodes : List Int).length) ((node :: fst :: List.drop 1 mid.nodes : List Int).flatMap iC_i64), row 3 1 (.slice D2 (((ko : Int) :: mid.edges : List Int).length) d2) (((ko : Int) :: mid.edges : List Int).length) (((ko : Int) :: mid.edges : List Int).flatMap iC_i64), rdRow D3 d3 mid.amts]) ?_ ?_
   ·
    rintro a z ⟨bp, mid, q2, D1, d1, D2, d2, D3, d3, hf13, hf14, hf15, hf16, hf17, hf18, F, S⟩
    dsimp only [tailAt]
    have hmid := hf13
    have hf5 := hf14
    have hf6 := hf15
    have hf6' := hf6
    unfold U64 at hf6'
    have hua' := hua
    unfold U64 at hua'
    have hm1 := hf16
    have hm2 := hf17
    have hm3 := hf18
    refine wp_seq ?_
    refine s_reg ?_
    refine l_pure 1 (fun L => (161, .pointer (some ⟨b1, 1, none⟩)) :: L) F (by kernel_rfl) fun a F => ?_
    refine l_do F rfl rfl (op_load _ _ (some ⟨b1, 0, none⟩) 1 (.slice Ae x.edges.length ce) F rfl (by kernel_rfl) (by kernel_rfl) (cBox S 1 rfl (j := 1) rfl) (fun a F => ?_))
    refine l_pure 2 (fun L => (164, .int .i64 (sv : Nat)) :: (163, .int .i64 (ko : Nat)) :: L) F (by kernel_rfl) fun a F => ?_
    refine l_do F rfl rfl (op_index _ 62 _ _ Ae x.edges.length ce ko 8 .i64 F rfl (by kernel_rfl) (by kernel_rfl) (by kernel_rfl) (by kernel_rfl) (get_lt heo) (recs_some h.e (m := ko) (get_lt heo)) (fun a F => ?_))
    refine l_do F rfl rfl (op_field _ _ _ Ae (ko * 8) 2 F rfl (by kernel_rfl) (by kernel_rfl) (recs_some h.e (m := ko) (get_lt heo)) (fun a F => ?_))
    refine l_do F rfl rfl (op_indexArr _ 26 _ _ Ae (ko * 8 + 2) 2 sv 1 .i64 F rfl (by kernel_rfl) (by kernel_rfl) (by kernel_rfl) (by kernel_rfl) (by omega) (recs_some h.e (m := ko) (get_lt heo)) (fun a F => ?_))
    refine l_do F rfl rfl (op_load _ _ Ae (ko * 8 + 2 + sv * 1) (.int .u64 (eo.can (sv : Nat))) F rfl (by kernel_rfl) (by kernel_rfl) (cell_off (cOld S 0 edC_len h.e rfl (2 + sv * 1) heo (edC_can eo (m := sv) (by omega))) (by omega)) (fun a F => ?_))
    refine l_pure 1 (fun L => (169, .int .u64 q2) :: L) F (by kernel_rfl) fun a F => ?_
    by_cases ht19 : (eo.can (sv : Nat) : Int) < (q2 : Int)
    ·
     skip
     obtain ⟨rfl, rfl⟩ := Prod.mk.inj (hq.symm.trans (cyc_room' hcy hroom hov hF hL hmid ht19))
     refine l_do F rfl rfl (op_pure F (v0 := .bool (decide ((eo.can (sv : Nat) : Int) < (q2 : Int)))) (v := .bool true) (by kernel_rfl) (lssT ht19) fun a F => ?_)
     refine l_then ?_
     refine c_t F rfl ?_
     refine s_reg ?_
     refine l_pure 1 (fun L => (171, .agg #[.slice none 0 0, .slice none 0 0, .slice none 0 0, .int .u64 0]) :: L) F (by kernel_rfl) fun a F => ?_
     refine l_do F rfl rfl (op_storeB S 2 _ _ _ b2 0 (.agg #[.slice none 0 0, .slice none 0 0, .slice none 0 0, .int .u64 0]) F rfl rfl (by kernel_rfl) (by kernel_rfl) (by kernel_rfl) (by kernel_rfl) (by kernel_rfl) fun z S a F => ?_)
     refine l_pure 1 (fun L => (11, .int .i64 28) :: L) F (by kernel_rfl) fun a F => ?_
     refine l_then ?_
     refine wp_ret ?_
     refine then_r (?_)
     exact fin F [.cell 10 92, .tmp 11] [.agg #[.slice none 0 0, .slice none 0 0, .slice none 0 0, .int .u64 0], .int .i64 28] rfl ⟨⟨_, by kernel_rfl, resK S 2 (cs := [.slice none 0 0, .slice none 0 0, .slice none 0 0, .int .u64 0]) rfl (by kernel_rfl) (by kernel_rfl) (by simp)⟩, by kernel_rfl, trivial⟩ (.tuple #[.agg #[.slice none 0 0, .slice none 0 0, .slice none 0 0, .int .u64 0], .int .i64 28]) rfl ⟨none, 0, none, 0, none, 0, by rw [cFee_bad (by decide)]; rfl, (((S.nilRow 3 1).nilRow 3 1).nilRow 26 1).pick [0, 7, 8, 9] (by decide)⟩
    ·
     skip
     have hcan := ht19
     obtain ⟨hra, rfl⟩ := Prod.mk.inj (hq.symm.trans (cyc_ok' hcy hroom hov hF hL hmid hcan))
     refine l_do F rfl rfl (op_pure F (v0 := .bool (decide ((eo.can (sv : Nat) : Int) < (q2 : Int)))) (v := .bool false) (by kernel_rfl) (lssF ht19) fun a F => ?_)
     refine l_then ?_
     refine c_f F rfl ?_
     refine wp_skip ?_
     refine then_n ?_
     refine s_reg ?_
     refine l_pure 1 (fun L => (172, .pointer (some ⟨bp, 0, none⟩)) :: L) F (by kernel_rfl) fun a F => ?_
     refine l_do F rfl rfl (op_load _ _ (some ⟨bp, 0, none⟩) 0 (.slice D1 ((node :: fst :: List.drop 1 mid.nodes : List Int).length) d1) F rfl (by kernel_rfl) (by kernel_rfl) (cBox S 3 rfl (j := 0) rfl) (fun a F => ?_))
     refine l_pure 1 (fun L => (174, .int .i64 node) :: L) F (by kernel_rfl) fun a F => ?_
     refine l_do F rfl rfl (op_buildSlice S _ 1 _ 3 1 iC_i64 ([node] : List Int) F rfl (by kernel_rfl) (by kernel_rfl) (by kernel_rfl) (by unfold maxLen; omega) fun b20 z S a F => ?_)
     refine l_do F rfl rfl (op_append S 4 _ _ _ 3 (.int .i64 0) 1 8 (node :: fst :: List.drop 1 mid.nodes : List Int) ([node] : List Int) iC_i64 (some ⟨b20, 0, none⟩) 1 F iC_len_i64 (fun _ => rfl) rfl rfl (by kernel_rfl) (by kernel_rfl) rfl rfl rfl (by kernel_rfl) (by kernel_rfl) (row_none (S.rowOf (i := 7) rfl)) (src_row (S.rowOf (i := 7) rfl)) (by first | omega | (simp <;> omega)) fun A21 c22 z S a F => ?_)
     refine l_pure 1 (fun L => (177, .pointer (some ⟨bp, 0, none⟩)) :: L) F (by kernel_rfl) fun a F => ?_
     refine l_do F rfl rfl (op_storeB S 3 _ _ _ bp 0 (.slice A21 (((node :: fst :: List.drop 1 mid.nodes : List Int) ++ ([node] : List Int)).length) c22) F rfl rfl (by kernel_rfl) (by kernel_rfl) (by kernel_rfl) (by kernel_rfl) (by kernel_rfl) fun z S a F => ?_)
     have S : Sat w z [rest w (· < w.heap.size), box b1 32 [.slice As x.spots.length cs, .slice Ae x.edges.length ce], box b2 92 [.slice none 0 0, .slice none 0 0, .slice none 0 0, .int .u64 0], box bp 92 [.slice A21 (((node :: fst :: List.drop 1 mid.nodes : List Int) ++ ([node] : List Int)).length) c22, .slice D2 (((ko : Int) :: mid.edges : List Int).length) d2, .slice none 0 0, .int .u64 0], row 3 1 (.slice A21 (((node :: fst :: List.drop 1 mid.nodes : List Int) ++ ([node] : List Int)).length) c22) (((node :: fst :: List.drop 1 mid.nodes : List Int) ++ ([node] : List Int)).length) (((node :: fst :: List.drop 1 mid.nodes : List Int) ++ ([node] : List Int)).flatMap iC_i64), row 3 1 (.slice D2 (((ko : Int) :: mid.edges : List Int).length) d2) (((ko : Int) :: mid.edges : List Int).length) (((ko : Int) :: mid.edges : List Int).flatMap iC_i64), rdRow D3 d3 mid.amts, row 3 1 (.slice (some ⟨b20, 0, none⟩) 1 1) 1 (([node] : List Int).flatMap iC_i64)] := S
     refine l_then ?_
     refine s_reg ?_
     refine l_pure 1 (fun L => (178, .pointer (some ⟨bp, 1, none⟩)) :: L) F (by kernel_rfl) fun a F => ?_
     refine l_do F rfl rfl (op_load _ _ (some ⟨bp, 0, none⟩) 1 (.slice D2 (((ko : Int) :: mid.edges : List Int).length) d2) F rfl (by kernel_rfl) (by kernel_rfl) (cBox S 3 rfl (j := 1) rfl) (fun a F => ?_))
     refine l_pure 1 (fun L => (180, .int .i64 (ki : Nat)) :: L) F (by kernel_rfl) fun a F => ?_
     refine l_do F rfl rfl (op_buildSlice S _ 1 _ 3 1 iC_i64 ([(ki : Nat)] : List Int) F rfl (by kernel_rfl) (by kernel_rfl) (by kernel_rfl) (by unfold maxLen; omega) fun b23 z S a F => ?_)
     refine l_do F rfl rfl (op_append S 5 _ _ _ 3 (.int .i64 0) 1 8 ((ko : Int) :: mid.edges : List Int) ([(ki : Nat)] : List Int) iC_i64 (some ⟨b23, 0, none⟩) 1 F iC_len_i64 (fun _ => rfl) rfl rfl (by kernel_rfl) (by kernel_rfl) rfl rfl rfl (by kernel_rfl) (by kernel_rfl) (row_none (S.rowOf (i := 8) rfl)) (src_row (S.rowOf (i := 8) rfl)) (by first | omega | (simp <;> omega)) fun A24 c25 z S a F => ?_)
     refine l_pure 1 (fun L => (183, .pointer (some ⟨bp, 1, none⟩)) :: L) F (by kernel_rfl) fun a F => ?_
     refine l_do F rfl rfl (op_storeB S 3 _ _ _ bp 1 (.slice A24 ((((ko : Int) :: mid.edges : List Int) ++ ([(ki : Nat)] : List Int)).length) c25) F rfl rfl (by kernel_rfl) (by kernel_rfl) (by kernel_rfl) (by kernel_rfl) (by kernel_rfl) fun z S a F => ?_)
     refine l_then ?_
     refine s_reg ?_
     refine l_pure 1 (fun L => (184, .int .u64 q2) :: L) F (by kernel_rfl) fun a F => ?_
     refine l_do F rfl rfl (op_buildSlice S _ 1 _ 26 1 iC_u64 ([q2] : List Int) F rfl (by kernel_rfl) (by kernel_rfl) (by kernel_rfl) (by unfold maxLen; omega) fun b26 z S a F => ?_)
     refine l_pure 1 (fun L => (186, .slice D3 mid.amts.length d3) :: L) F (by kernel_rfl) fun a F => ?_
     refine l_do F rfl rfl (op_append S 9 _ _ _ 26 (.int .u64 0) 1 8 ([q2] : List Int) mid.amts iC_u64 D3 d3 F iC_len_u64 (fun _ => rfl) rfl rfl (by kernel_rfl) (by kernel_rfl) rfl rfl rfl (by kernel_rfl) (by kernel_rfl) ((rd_recs S 6 rfl (by omega))).none_ ((rd_recs S 6 rfl (by omega))).src (by first | omega | (simp <;> omega)) fun A27 c28 z S a F => ?_)
     have S : Sat w z [rest w (· < w.heap.size), box b1 32 [.slice As x.spots.length cs, .slice Ae x.edges.length ce], box b2 92 [.slice none 0 0, .slice none 0 0, .slice none 0 0, .int .u64 0], box bp 92 [.slice A21 (((node :: fst :: List.drop 1 mid.nodes : List Int) ++ ([node] : List Int)).length) c22, .slice A24 ((((ko : Int) :: mid.edges : List Int) ++ ([(ki : Nat)] : List Int)).length) c25, .slice none 0 0, .int .u64 0], row 3 1 (.slice A21 (((node :: fst :: List.drop 1 mid.nodes : List Int) ++ ([node] : List Int)).length) c22) (((node :: fst :: List.drop 1 mid.nodes : List Int) ++ ([node] : List Int)).length) (((node :: fst :: List.drop 1 mid.nodes : List Int) ++ ([node] : List Int)).flatMap iC_i64), row 3 1 (.slice A24 ((((ko : Int) :: mid.edges : List Int) ++ ([(ki : Nat)] : List Int)).length) c25) ((((ko : Int) :: mid.edges : List Int) ++ ([(ki : Nat)] : List Int)).length) ((((ko : Int) :: mid.edges : List Int) ++ ([(ki : Nat)] : List Int)).flatMap iC_i64), rdRow D3 d3 mid.amts, row 3 1 (.slice (some ⟨b20, 0, none⟩) 1 1) 1 (([node] : List Int).flatMap iC_i64), row 3 1 (.slice (some ⟨b23, 0, none⟩) 1 1) 1 (([(ki : Nat)] : List Int).flatMap iC_i64), row 26 1 (.slice A27 ((([q2] : List Int) ++ mid.amts).length) c28) ((([q2] : List Int) ++ mid.amts).length) ((([q2] : List Int) ++ mid.amts).flatMap iC_u64)] := S
     refine l_pure 1 (fun L => (188, .int .u64 am) :: L) F (by kernel_rfl) fun a F => ?_
     refine l_do F rfl rfl (op_buildSlice S _ 1 _ 26 1 iC_u64 ([am] : List Int) F rfl (by kernel_rfl) (by kernel_rfl) (by kernel_rfl) (by unfold maxLen; omega) fun b29 z S a F => ?_)
     refine l_do F rfl rfl (op_append S 9 _ _ _ 26 (.int .u64 0) 1 8 (([q2] : List Int) ++ mid.amts) ([am] : List Int) iC_u64 (some ⟨b29, 0, none⟩) 1 F iC_len_u64 (fun _ => rfl) rfl rfl (by kernel_rfl) (by kernel_rfl) rfl rfl rfl (by kernel_rfl) (by kernel_rfl) (row_none (S.rowOf (i := 10) rfl)) (src_row (S.rowOf (i := 10) rfl)) (by first | omega | (simp <;> omega)) fun A30 c31 z S a F => ?_)
     refine l_pure 1 (fun L => (191, .pointer (some ⟨bp, 2, none⟩)) :: L) F (by kernel_rfl) fun a F => ?_
     refine l_do F rfl rfl (op_storeB S 3 _ _ _ bp 2 (.slice A30 (((([q2] : List Int) ++ mid.amts) ++ ([am] : List Int)).length) c31) F rfl rfl (by kernel_rfl) (by kernel_rfl) (by kernel_rfl) (by kernel_rfl) (by kernel_rfl) fun z S a F => ?_)
     refine l_then ?_
     refine s_reg ?_
     refine l_pure 2 (fun L => (193, .int .u64 am) :: (192, .int .u64 q2) :: L) F (by kernel_rfl) fun a F => ?_
     refine l_do F rfl rfl (op_pure F (v0 := .int .u64 (IntKind.wrap .u64 (q2 - am))) (v := .int .u64 (q2 - am)) (by kernel_rfl) (wr_u64 (by omega) (by omega)) fun a F => ?_)
     refine l_pure 1 (fun L => (195, .pointer (some ⟨bp, 3, none⟩)) :: L) F (by kernel_rfl) fun a F => ?_
     refine l_do F rfl rfl (op_storeB S 3 _ _ _ bp 3 (.int .u64 (q2 - am)) F rfl rfl (by kernel_rfl) (by kernel_rfl) (by kernel_rfl) (by kernel_rfl) (by kernel_rfl) fun z S a F => ?_)
     have S : Sat w z [rest w (· < w.heap.size), box b1 32 [.slice As x.spots.length cs, .slice Ae x.edges.length ce], box b2 92 [.slice none 0 0, .slice none 0 0, .slice none 0 0, .int .u64 0], box bp 92 [.slice A21 (((node :: fst :: List.drop 1 mid.nodes : List Int) ++ ([node] : List Int)).length) c22, .slice A24 ((((ko : Int) :: mid.edges : List Int) ++ ([(ki : Nat)] : List Int)).length) c25, .slice A30 (((([q2] : List Int) ++ mid.amts) ++ ([am] : List Int)).length) c31, .int .u64 (q2 - am)], row 3 1 (.slice A21 (((node :: fst :: List.drop 1 mid.nodes : List Int) ++ ([node] : List Int)).length) c22) (((node :: fst :: List.drop 1 mid.nodes : List Int) ++ ([node] : List Int)).length) (((node :: fst :: List.drop 1 mid.nodes : List Int) ++ ([node] : List Int)).flatMap iC_i64), row 3 1 (.slice A24 ((((ko : Int) :: mid.edges : List Int) ++ ([(ki : Nat)] : List Int)).length) c25) ((((ko : Int) :: mid.edges : List Int) ++ ([(ki : Nat)] : List Int)).length) ((((ko : Int) :: mid.edges : List Int) ++ ([(ki : Nat)] : List Int)).flatMap iC_i64), rdRow D3 d3 mid.amts, row 3 1 (.slice (some ⟨b20, 0, none⟩) 1 1) 1 (([node] : List Int).flatMap iC_i64), row 3 1 (.slice (some ⟨b23, 0, none⟩) 1 1) 1 (([(ki : Nat)] : List Int).flatMap iC_i64), row 26 1 (.slice A30 (((([q2] : List Int) ++ mid.amts) ++ ([am] : List Int)).length) c31) (((([q2] : List Int) ++ mid.amts) ++ ([am] : List Int)).length) (((([q2] : List Int) ++ mid.amts) ++ ([am] : List Int)).flatMap iC_u64), row 26 1 (.slice (some ⟨b29, 0, none⟩) 1 1) 1 (([am] : List Int).flatMap iC_u64)] := S
     refine l_then ?_
     refine s_reg ?_
     refine l_do F rfl rfl (op_loadK _ _ (some ⟨bp, 0, none⟩) 0 [.slice A21 (((node :: fst :: List.drop 1 mid.nodes : List Int) ++ ([node] : List Int)).length) c22, .slice A24 ((((ko : Int) :: mid.edges : List Int) ++ ([(ki : Nat)] : List Int)).length) c25, .slice A30 (((([q2] : List Int) ++ mid.amts) ++ ([am] : List Int)).length) c31, .int .u64 (q2 - am)] F rfl (by kernel_rfl) (by kernel_rfl) (by kernel_rfl) (by simp) (cBoxK S 3 rfl 0 (by kernel_rfl)) (fun a F => ?_))
     refine l_do F rfl rfl (op_storeB S 2 _ _ _ b2 0 (.agg #[.slice A21 (((node :: fst :: List.drop 1 mid.nodes : List Int) ++ ([node] : List Int)).length) c22, .slice A24 ((((ko : Int) :: mid.edges : List Int) ++ ([(ki : Nat)] : List Int)).length) c25, .slice A30 (((([q2] : List Int) ++ mid.amts) ++ ([am] : List Int)).length) c31, .int .u64 (q2 - am)]) F rfl rfl (by kernel_rfl) (by kernel_rfl) (by kernel_rfl) (by kernel_rfl) (by kernel_rfl) fun z S a F => ?_)
     refine l_pure 1 (fun L => (11, .int .i64 0) :: L) F (by kernel_rfl) fun a F => ?_
     refine l_then ?_
     refine wp_ret ?_
     have hX4 : ((node :: fst :: List.drop 1 mid.nodes : List Int) ++ ([node] : List Int)) = r.nodes := by rw [hra]; simp
     have hN4 : ((node :: fst :: List.drop 1 mid.nodes : List Int) ++ ([node] : List Int)).length = r.nodes.length := congrArg List.length hX4
     have S := S.rowEq 4 hX4 hN4 rfl
     have hX5 : (((ko : Int) :: mid.edges : List Int) ++ ([(ki : Nat)] : List Int)) = r.edges := by rw [hra]; simp
     have hN5 : (((ko : Int) :: mid.edges : List Int) ++ ([(ki : Nat)] : List Int)).length = r.edges.length := congrArg List.length hX5
     have S := S.rowEq 5 hX5 hN5 rfl
     have hX9 : ((([q2] : List Int) ++ mid.amts) ++ ([am] : List Int)) = r.amts := by rw [hra]; simp
     have hN9 : ((([q2] : List Int) ++ mid.amts) ++ ([am] : List Int)).length = r.amts.length := congrArg List.length hX9
     have S := S.rowEq 9 hX9 hN9 rfl
     have S : Sat w z [rest w (· < w.heap.size), box b1 32 [.slice As x.spots.length cs, .slice Ae x.edges.length ce], box b2 92 [.slice A21 (((node :: fst :: List.drop 1 mid.nodes : List Int) ++ ([node] : List Int)).length) c22, .slice A24 ((((ko : Int) :: mid.edges : List Int) ++ ([(ki : Nat)] : List Int)).length) c25, .slice A30 (((([q2] : List Int) ++ mid.amts) ++ ([am] : List Int)).length) c31, .int .u64 (q2 - am)], box bp 92 [.slice A21 (((node :: fst :: List.drop 1 mid.nodes : List Int) ++ ([node] : List Int)).length) c22, .slice A24 ((((ko : Int) :: mid.edges : List Int) ++ ([(ki : Nat)] : List Int)).length) c25, .slice A30 (((([q2] : List Int) ++ mid.amts) ++ ([am] : List Int)).length) c31, .int .u64 (q2 - am)], row 3 1 (.slice A21 r.nodes.length c22) r.nodes.length (r.nodes.flatMap iC_i64), row 3 1 (.slice A24 r.edges.length c25) r.edges.length (r.edges.flatMap iC_i64), rdRow D3 d3 mid.amts, row 3 1 (.slice (some ⟨b20, 0, none⟩) 1 1) 1 (([node] : List Int).flatMap iC_i64), row 3 1 (.slice (some ⟨b23, 0, none⟩) 1 1) 1 (([(ki : Nat)] : List Int).flatMap iC_i64), row 26 1 (.slice A30 r.amts.length c31) r.amts.length (r.amts.flatMap iC_u64), row 26 1 (.slice (some ⟨b29, 0, none⟩) 1 1) 1 (([am] : List Int).flatMap iC_u64)] := S
     have hfe : cFee r am 0 = q2 - am := by rw [hra]; rfl
     exact fin F [.cell 10 92, .tmp 11] [.agg #[.slice A21 (((node :: fst :: List.drop 1 mid.nodes : List Int) ++ ([node] : List Int)).length) c22, .slice A24 ((((ko : Int) :: mid.edges : List Int) ++ ([(ki : Nat)] : List Int)).length) c25, .slice A30 (((([q2] : List Int) ++ mid.amts) ++ ([am] : List Int)).length) c31, .int .u64 (q2 - am)], .int .i64 0] rfl ⟨⟨_, by kernel_rfl, resK S 2 (cs := [.slice A21 (((node :: fst :: List.drop 1 mid.nodes : List Int) ++ ([node] : List Int)).length) c22, .slice A24 ((((ko : Int) :: mid.edges : List Int) ++ ([(ki : Nat)] : List Int)).length) c25, .slice A30 (((([q2] : List Int) ++ mid.amts) ++ ([am] : List Int)).length) c31, .int .u64 (q2 - am)]) rfl (by kernel_rfl) (by kernel_rfl) (by simp)⟩, by kernel_rfl, trivial⟩ (.tuple #[.agg #[.slice A21 (((node :: fst :: List.drop 1 mid.nodes : List Int) ++ ([node] : List Int)).length) c22, .slice A24 ((((ko : Int) :: mid.edges : List Int) ++ ([(ki : Nat)] : List Int)).length) c25, .slice A30 (((([q2] : List Int) ++ mid.amts) ++ ([am] : List Int)).length) c31, .int .u64 (q2 - am)], .int .i64 0]) rfl ⟨A21, c22, A24, c25, A30, c31, by rw [← hN4, ← hN5, ← hN9, hfe], S.pick [0, 4, 5, 9] (by decide)⟩
   ·
    intro hcut29
    dsimp only [tailAt] at hcut29
    refine s_reg ?_
    refine l_pure 2 (fun L => (92, .int .i64 fst) :: (91, .int .i64 node) :: L) F (by kernel_rfl) fun a F => ?_
    refine l_do F rfl rfl (op_buildSlice S _ 2 _ 3 1 iC_i64 ([node, fst] : List Int) F rfl (by kernel_rfl) (by kernel_rfl) (by kernel_rfl) (by unfold maxLen; omega) fun b32 z S a F => ?_)
    refine l_pure 1 (fun L => (94, .int .i64 (ko : Nat)) :: L) F (by kernel_rfl) fun a F => ?_
    refine l_do F rfl rfl (op_buildSlice S _ 1 _ 3 1 iC_i64 ([(ko : Nat)] : List Int) F rfl (by kernel_rfl) (by kernel_rfl) (by kernel_rfl) (by unfold maxLen; omega) fun b33 z S a F => ?_)
    refine l_pure 1 (fun L => (96, .agg #[.slice (some ⟨b32, 0, none⟩) 2 2, .slice (some ⟨b33, 0, none⟩) 1 1, .slice none 0 0, .int .u64 0]) :: L) F (by kernel_rfl) fun a F => ?_
    refine l_do F rfl rfl (op_alloc S _ (.agg #[.slice none 0 0, .slice none 0 0, .slice none 0 0, .int .u64 0]) rfl (by kernel_rfl) fun b34 z S a F => ?_)
    refine l_do F rfl rfl (op_storeB S 5 _ _ _ b34 0 (.agg #[.slice (some ⟨b32, 0, none⟩) 2 2, .slice (some ⟨b33, 0, none⟩) 1 1, .slice none 0 0, .int .u64 0]) F rfl rfl (by kernel_rfl) (by kernel_rfl) (by kernel_rfl) (by kernel_rfl) (by kernel_rfl) fun z S a F => ?_)
    refine l_then ?_
    refine s_reg ?_
    refine l_do F rfl rfl (op_buildSlice S _ 0 _ 26 1 iC_u64 ([] : List Int) F rfl (by kernel_rfl) (by kernel_rfl) (by kernel_rfl) (by unfold maxLen; omega) fun b35 z S a F => ?_)
    refine l_pure 1 (fun L => (22, .slice (some ⟨b35, 0, none⟩) 0 0) :: L) F (by kernel_rfl) fun a F => ?_
    refine l_then ?_
    refine wp_seq ?_
    refine s_reg ?_
    refine l_pure 2 (fun L => (99, .int .i64 lst) :: (98, .int .i64 fst) :: L) F (by kernel_rfl) fun a F => ?_
    by_cases ht36 : (fst : Int) = (lst : Int)
    ·
     skip
     have hfl := ht36
     have hmid := mid_none (x := x) (node := node) (asked := q) hfl
     refine l_do F rfl rfl (op_pure F (v0 := .bool ((fst : Int) != (lst : Int))) (v := .bool false) (by kernel_rfl) (neqF ht36) fun a F => ?_)
     refine l_then ?_
     refine c_f F rfl ?_
     refine wp_skip ?_
     refine then_n ?_
     have hX3 : ([node, fst] : List Int) = (node :: fst :: List.drop 1 noRt.nodes : List Int) := by simp [noRt]
     have S := S.rowEq 3 hX3 (show 2 = ((node :: fst :: List.drop 1 noRt.nodes : List Int)).length from congrArg List.length hX3) rfl
     have hX4 : ([(ko : Nat)] : List Int) = ((ko : Int) :: noRt.edges : List Int) := by simp [noRt]
     have S := S.rowEq 4 hX4 (show 1 = (((ko : Int) :: noRt.edges : List Int)).length from congrArg List.length hX4) rfl
     have S := S.rdOfRow 6 (X := []) rfl
     have S : Sat w z [rest w (· < w.heap.size), box b1 32 [.slice As x.spots.length cs, .slice Ae x.edges.length ce], box b2 92 [.slice none 0 0, .slice none 0 0, .slice none 0 0, .int .u64 0], row 3 1 (.slice (some ⟨b32, 0, none⟩) ((node :: fst :: List.drop 1 noRt.nodes : List Int).length) 2) ((node :: fst :: List.drop 1 noRt.nodes : List Int).length) ((node :: fst :: List.drop 1 noRt.nodes : List Int).flatMap iC_i64), row 3 1 (.slice (some ⟨b33, 0, none⟩) (((ko : Int) :: noRt.edges : List Int).length) 1) (((ko : Int) :: noRt.edges : List Int).length) (((ko : Int) :: noRt.edges : List Int).flatMap iC_i64), box b34 92 [.slice (some ⟨b32, 0, none⟩) ((node :: fst :: List.drop 1 noRt.nodes : List Int).length) 2, .slice (some ⟨b33, 0, none⟩) (((ko : Int) :: noRt.edges : List Int).length) 1, .slice none 0 0, .int .u64 0], rdRow (some ⟨b35, 0, none⟩) 0 (noRt).amts] := S
     exact hcut29 _ _ ⟨b34, noRt, q, (some ⟨b32, 0, none⟩), 2, (some ⟨b33, 0, none⟩), 1, (some ⟨b35, 0, none⟩), 0, hmid, hq1, hqu, (by decide), (by decide), (by decide), F.sub ⟨by kernel_rfl, by kernel_rfl, by kernel_rfl, by kernel_rfl, by kernel_rfl, by kernel_rfl, by kernel_rfl, by kernel_rfl, by kernel_rfl, by kernel_rfl, trivial⟩, (S.pick [0, 1, 2, 5, 3, 4, 6] (by decide))⟩
    ·
     skip
     have hfl := ht36
     refine l_do F rfl rfl (op_pure F (v0 := .bool ((fst : Int) != (lst : Int))) (v := .bool true) (by kernel_rfl) (neqT ht36) fun a F => ?_)
     refine l_then ?_
     refine c_t F rfl ?_
     refine s_reg ?_
     refine l_do F rfl rfl (op_loadK _ _ (some ⟨b1, 0, none⟩) 0 [.slice As x.spots.length cs, .slice Ae x.edges.length ce] F rfl (by kernel_rfl) (by kernel_rfl) (by kernel_rfl) (by simp) (cBoxK S 1 rfl 0 (by kernel_rfl)) (fun a F => ?_))
     refine l_pure 1 (fun L => (103, .int .i64 node) :: L) F (by kernel_rfl) fun a F => ?_
     refine l_do F rfl rfl (op_fn F (by kernel_rfl) (without_any _ As cs Ae ce x (h.move S rfl) ok node hl1 hl2) ?_)
     rintro e z ⟨A37, c38, A39, c40, rfl, g⟩
     have S := S.pushThings g
     have hwl : (withoutP x node).edges.length ≤ 1000 := by rw [(without_len x node).2]; exact hl2
     refine ⟨_, rfl, ?_⟩
     intro a F
     refine l_pure 3 (fun L => (107, .int .u64 q) :: (106, .int .i64 lst) :: (105, .int .i64 fst) :: L) F (by kernel_rfl) fun a F => ?_
     refine l_do F rfl rfl (op_fn F (by kernel_rfl) (pbest_any _ A37 c38 A39 c40 (withoutP x node) (WebAt.ofNew (x := (withoutP x node)) (w := w) S (i := 7) (j := 8) rfl rfl ⟨hl1, hwl⟩) (without_ok ok node) fst lst q hqu hl1) ?_)
     rintro e z ⟨mb, R3, rfl, hmb1, hmbR, hmb3, hmb4, g⟩
     have S := S.pushThings g
     refine ⟨_, rfl, ?_⟩
     intro a F
     refine l_pure 3 (fun L => (110, .int .i64 ((bestRt (withoutP x node) fst lst q).2)) :: (109, .agg #[.slice mb.A1 mb.r.nodes.length mb.c1, .slice mb.A2 mb.r.edges.length mb.c2, .slice mb.A3 mb.r.amts.length mb.c3]) :: (101, .tuple #[.agg #[.slice mb.A1 mb.r.nodes.length mb.c1, .slice mb.A2 mb.r.edges.length mb.c2, .slice mb.A3 mb.r.amts.length mb.c3], .int .i64 ((bestRt (withoutP x node) fst lst q).2)]) :: L) F (by kernel_rfl) fun a F => ?_
     refine l_do F rfl rfl (op_alloc S _ (.agg #[.slice none 0 0, .slice none 0 0, .slice none 0 0]) rfl (by kernel_rfl) fun b41 z S a F => ?_)
     refine l_do F rfl rfl (op_storeB S 10 _ _ _ b41 0 (.agg #[.slice mb.A1 mb.r.nodes.length mb.c1, .slice mb.A2 mb.r.edges.length mb.c2, .slice mb.A3 mb.r.amts.length mb.c3]) F rfl rfl (by kernel_rfl) (by kernel_rfl) (by kernel_rfl) (by kernel_rfl) (by kernel_rfl) fun z S a F => ?_)
     have S : Sat w z [rest w (· < w.heap.size), box b1 32 [.slice As x.spots.length cs, .slice Ae x.edges.length ce], box b2 92 [.slice none 0 0, .slice none 0 0, .slice none 0 0, .int .u64 0], row 3 1 (.slice (some ⟨b32, 0, none⟩) 2 2) 2 (([node, fst] : List Int).flatMap iC_i64), row 3 1 (.slice (some ⟨b33, 0, none⟩) 1 1) 1 (([(ko : Nat)] : List Int).flatMap iC_i64), box b34 92 [.slice (some ⟨b32, 0, none⟩) 2 2, .slice (some ⟨b33, 0, none⟩) 1 1, .slice none 0 0, .int .u64 0], row 26 1 (.slice (some ⟨b35, 0, none⟩) 0 0) 0 (([] : List Int).flatMap iC_u64), row 107 2 (.slice A37 (((withoutP x node).spots).length) c38) (((withoutP x node).spots).length) (((withoutP x node).spots).flatMap spC), row 62 8 (.slice A39 (((withoutP x node).edges).length) c40) (((withoutP x node).edges).length) (((withoutP x node).edges).flatMap edC), bag (R3.flatMap rtRows), box b41 47 [.slice mb.A1 mb.r.nodes.length mb.c1, .slice mb.A2 mb.r.edges.length mb.c2, .slice mb.A3 mb.r.amts.length mb.c3]] := S
     refine l_pure 1 (fun L => (24, .int .i64 ((bestRt (withoutP x node) fst lst q).2)) :: L) F (by kernel_rfl) fun a F => ?_
     refine l_then ?_
     refine wp_seq ?_
     refine s_reg ?_
     refine l_pure 1 (fun L => (111, .int .i64 ((bestRt (withoutP x node) fst lst q).2)) :: L) F (by kernel_rfl) fun a F => ?_
     by_cases ht42 : ((bestRt (withoutP x node) fst lst q).2 : Int) = (0 : Int)
     ·
      skip
      have hb0 := ht42
      have hmbm := hmb3 hb0
      obtain ⟨kb, hkb, hkb2⟩ := List.getElem_of_mem hmbm
      have hgm := good_of hmbR (i := kb) (m := mb) (by rw [List.getElem?_eq_getElem hkb, hkb2])
      have hr9 := (best_of hb0 hmb1).1
      have hs9 := good_snd (without_ok ok node) hqu hgm.2.1 hr9
      have hn1 := hs9.way.len
      have hn2 := hs9.alen
      have hn3 := hs9.few
      have hn4 := hs9.one
      have hbest : (bestRt (withoutP x node) fst lst q) = (mb.r, 0) := by rw [hmb1, ← hb0]
      obtain ⟨j, ej, sj, hej0, hej, hs5, hsj2⟩ := first_edge hs9
      obtain ⟨um, hum⟩ := hgm.2.2.2
      have hokj := ok.e ej (List.mem_of_getElem? hej)
      have huu := hs9.au um (List.mem_of_getElem? hum)
      have hge : q ≤ um := by
        by_cases h9 : mb.r.edges.length = 1
        · have h8 := hs9.alast
          rw [h9, show 1 - 1 = 0 from rfl, hum] at h8
          injection h8 with h8
          omega
        · exact hs9.fall 0 (mb.r.edges.length - 1) um _ (by omega) hum hs9.alast
      refine l_do F rfl rfl (op_pure F (v0 := .bool (((bestRt (withoutP x node) fst lst q).2 : Int) != (0 : Int))) (v := .bool false) (by kernel_rfl) (neqF ht42) fun a F => ?_)
      refine l_then ?_
      refine c_f F rfl ?_
      refine wp_skip ?_
      refine then_n ?_
      refine wp_seq ?_
      refine s_reg ?_
      refine l_do F rfl rfl (op_loadK _ _ (some ⟨b41, 0, none⟩) 0 [.slice mb.A1 mb.r.nodes.length mb.c1, .slice mb.A2 mb.r.edges.length mb.c2, .slice mb.A3 mb.r.amts.length mb.c3] F rfl (by kernel_rfl) (by kernel_rfl) (by kernel_rfl) (by simp) (cBoxK S 10 rfl 0 (by kernel_rfl)) (fun a F => ?_))
      refine l_do F rfl rfl (op_fn F (by kernel_rfl) (long_any _ (.slice mb.A1 mb.r.nodes.length mb.c1) mb.A2 mb.r.edges.length mb.c2 (.slice mb.A3 mb.r.amts.length mb.c3)) ?_)
      rintro e z ⟨rfl, hb⟩
      have S := S.grow hb
      refine ⟨_, rfl, ?_⟩
      intro a F
      refine l_do F rfl rfl (op_pure F (v0 := .int .i64 (IntKind.wrap .i64 ((mb.r.edges.length : Nat) + 2))) (v := .int .i64 (mb.r.edges.length + 2 : Nat)) (by kernel_rfl) (wrn_i64 (by omega) (by omega) (by omega)) fun a F => ?_)
      by_cases ht43 : (7 : Int) < ((mb.r.edges.length + 2 : Nat) : Int)
      ·
       skip
       obtain ⟨rfl, rfl⟩ := Prod.mk.inj (hq.symm.trans (cyc_mid' hcy hroom hov hF hL (mid_long hfl hbest (by omega)) (by decide)))
       refine l_do F rfl rfl (op_pure F (v0 := .bool (decide (((mb.r.edges.length + 2 : Nat) : Int) > (7 : Int)))) (v := .bool true) (by kernel_rfl) (gtrT ht43) fun a F => ?_)
       refine l_then ?_
       refine c_t F rfl ?_
       refine s_reg ?_
       refine l_pure 1 (fun L => (119, .agg #[.slice none 0 0, .slice none 0 0, .slice none 0 0, .int .u64 0]) :: L) F (by kernel_rfl) fun a F => ?_
       refine l_do F rfl rfl (op_storeB S 2 _ _ _ b2 0 (.agg #[.slice none 0 0, .slice none 0 0, .slice none 0 0, .int .u64 0]) F rfl rfl (by kernel_rfl) (by kernel_rfl) (by kernel_rfl) (by kernel_rfl) (by kernel_rfl) fun z S a F => ?_)
       refine l_pure 1 (fun L => (11, .int .i64 27) :: L) F (by kernel_rfl) fun a F => ?_
       refine l_then ?_
       refine wp_ret ?_
       refine then_r (then_r (?_))
       exact fin F [.cell 10 92, .tmp 11] [.agg #[.slice none 0 0, .slice none 0 0, .slice none 0 0, .int .u64 0], .int .i64 27] rfl ⟨⟨_, by kernel_rfl, resK S 2 (cs := [.slice none 0 0, .slice none 0 0, .slice none 0 0, .int .u64 0]) rfl (by kernel_rfl) (by kernel_rfl) (by simp)⟩, by kernel_rfl, trivial⟩ (.tuple #[.agg #[.slice none 0 0, .slice none 0 0, .slice none 0 0, .int .u64 0], .int .i64 27]) rfl ⟨none, 0, none, 0, none, 0, by rw [cFee_bad (by decide)]; rfl, (((S.nilRow 3 1).nilRow 3 1).nilRow 26 1).pick [0, 11, 12, 13] (by decide)⟩
      ·
       skip
       have hsh := ht43
       refine l_do F rfl rfl (op_pure F (v0 := .bool (decide (((mb.r.edges.length + 2 : Nat) : Int) > (7 : Int)))) (v := .bool false) (by kernel_rfl) (gtrF ht43) fun a F => ?_)
       refine l_then ?_
       refine c_f F rfl ?_
       refine wp_skip ?_
       refine then_n ?_
       refine wp_seq ?_
       refine region_gx (fun D => fun ((A44, c45) : Option Addr × Nat) => [rest w (· < w.heap.size), box b1 32 [.slice As x.spots.length cs, .slice Ae x.edges.length ce], box b2 92 [.slice none 0 0, .slice none 0 0, .slice none 0 0, .int .u64 0], bif D 5 then row 3 1 (.slice A44 ((([node, fst] : List Int) ++ (mb.r.nodes.drop 1)).length) c45) ((([node, fst] : List Int) ++ (mb.r.nodes.drop 1)).length) ((([node, fst] : List Int) ++ (mb.r.nodes.drop 1)).flatMap iC_i64) else row 3 1 (.slice (some ⟨b32, 0, none⟩) 2 2) 2 (([node, fst] : List Int).flatMap iC_i64), row 3 1 (.slice (some ⟨b33, 0, none⟩) 1 1) 1 (([(ko : Nat)] : List Int).flatMap iC_i64), bif D 7 then box b34 92 [.slice A44 ((([node, fst] : List Int) ++ (mb.r.nodes.drop 1)).length) c45, .slice (some ⟨b33, 0, none⟩) 1 1, .slice none 0 0, .int .u64 0] else box b34 92 [.slice (some ⟨b32, 0, none⟩) 2 2, .slice (some ⟨b33, 0, none⟩) 1 1, .slice none 0 0, .int .u64 0], row 26 1 (.slice (some ⟨b35, 0, none⟩) 0 0) 0 (([] : List Int).flatMap iC_u64), row 107 2 (.slice A37 (((withoutP x node).spots).length) c38) (((withoutP x node).spots).length) (((withoutP x node).spots).flatMap spC), row 62 8 (.slice A39 (((withoutP x node).edges).length) c40) (((withoutP x node).edges).length) (((withoutP x node).edges).flatMap edC), bag (R3.flatMap rtRows), box b41 47 [.slice mb.A1 mb.r.nodes.length mb.c1, .slice mb.A2 mb.r.edges.length mb.c2, .slice mb.A3 mb.r.amts.length mb.c3]]) (fun ((A44, c45) : Option Addr × Nat) => [.pointer (some ⟨b34, 0, none⟩), .slice (some ⟨b32, 0, none⟩) 2 2, .pointer (some ⟨b41, 0, none⟩), .slice mb.A1 mb.r.nodes.length mb.c1, .slice (if mb.c1 = 1 then mb.A1 else mb.A1.map (·.add (1 * 1))) ((mb.r.nodes.drop 1).length) (mb.c1 - 1), .slice A44 ((([node, fst] : List Int) ++ (mb.r.nodes.drop 1)).length) c45, .pointer (some ⟨b34, 0, none⟩), undef]) [(1, [], [5, 7]), (3, [], [4, 5, 7]), (4, [3], [5, 7]), (5, [1, 3, 4], [7]), (7, [1, 3, 4, 5], [])] (none, 0) rfl (by kernel_rfl) (by kernel_rfl) F S.drew ?_ ?_ ?_ ?_ ?_
       · rintro ⟨A44, c45⟩; rfl
       · rintro ⟨A44, c45⟩; kernel_rfl
       ·
        intro D D' x h
        obtain ⟨A44, c45⟩ := x
        simp only [h 5 (by decide), h 7 (by decide)]
       ·
        refine ⟨?_, ?_⟩
        ·
         refine ⟨_, rfl, rfl, by kernel_rfl, ?_⟩
         rintro D ⟨A44, c45⟩ a z S F
         refine ⟨by kernel_rfl, ?_⟩
         exact op_load _ _ (some ⟨b34, 0, none⟩) 0 (.slice (some ⟨b32, 0, none⟩) 2 2) F rfl (by kernel_rfl) (by kernel_rfl) (cBox S 5 rfl (j := 0) rfl) (⟨(A44, c45), rfl, (SameB.refl _ _ rfl), S⟩)
        refine ⟨?_, ?_⟩
        ·
         refine ⟨_, rfl, rfl, by kernel_rfl, ?_⟩
         rintro D ⟨A44, c45⟩ a z S F
         refine ⟨by kernel_rfl, ?_⟩
         exact op_load _ _ (some ⟨b41, 0, none⟩) 0 (.slice mb.A1 mb.r.nodes.length mb.c1) F rfl (by kernel_rfl) (by kernel_rfl) (cBox S 10 rfl (j := 0) rfl) (⟨(A44, c45), rfl, (SameB.refl _ _ rfl), S⟩)
        refine ⟨?_, ?_⟩
        ·
         refine ⟨_, rfl, rfl, by kernel_rfl, ?_⟩
         rintro D ⟨A44, c45⟩ a z S F
         refine ⟨by kernel_rfl, ?_⟩
         exact op_sliceT (.slice (if mb.c1 = 1 then mb.A1 else mb.A1.map (·.add (1 * 1))) ((mb.r.nodes.drop 1).length) (mb.c1 - 1)) _ 3 _ _ mb.A1 mb.r.nodes.length mb.c1 1 .i64 F rfl (by kernel_rfl) (by kernel_rfl) (by kernel_rfl) (by kernel_rfl) (by omega) (by unfold cutL; rw [List.length_drop]) (⟨(A44, c45), rfl, (SameB.refl _ _ rfl), S⟩)
        refine ⟨?_, ?_⟩
        ·
         refine ⟨_, rfl, rfl, by kernel_rfl, ?_⟩
         rintro D ⟨A44, c45⟩ a z S F
         refine ⟨by kernel_rfl, ?_⟩
         exact op_append S 3 _ _ _ 3 (.int .i64 0) 1 8 ([node, fst] : List Int) (mb.r.nodes.drop 1) iC_i64 (if mb.c1 = 1 then mb.A1 else mb.A1.map (·.add (1 * 1))) (mb.c1 - 1) F iC_len_i64 (fun _ => rfl) rfl rfl (by kernel_rfl) (by kernel_rfl) rfl rfl rfl (by kernel_rfl) (by kernel_rfl) ((bag_tail S 9 rfl hmbm (by omega) (by omega))).none_ ((bag_tail S 9 rfl hmbm (by omega) (by omega))).src (by first | omega | (simp <;> omega)) fun y46 y47 z S => ⟨(y46, y47), rfl, ⟨rfl, rfl, rfl, rfl, rfl, trivial, trivial, trivial, trivial⟩, S⟩
        refine ⟨?_, ?_⟩
        ·
         refine ⟨_, rfl, rfl, by kernel_rfl, ?_⟩
         rintro D ⟨A44, c45⟩ a z S F
         refine ⟨by kernel_rfl, ?_⟩
         exact op_storeB S 5 _ _ _ b34 0 (.slice A44 ((([node, fst] : List Int) ++ (mb.r.nodes.drop 1)).length) c45) F rfl rfl (by kernel_rfl) (by kernel_rfl) (by kernel_rfl) (by kernel_rfl) (by kernel_rfl) fun z S => ⟨(A44, c45), rfl, (SameB.refl _ _ rfl), S⟩
        trivial
       ·
        rintro ⟨A44, c45⟩ a z F S
        have F := F.sub (l := [(1, .int .i64 node), (2, .int .i64 (ko : Nat)), (3, .int .i64 (ki : Nat)), (4, .int .u64 am), (5, .pointer (some ⟨b1, 0, none⟩)), (10, .pointer (some ⟨b2, 0, none⟩)), (13, .int .i64 (sv : Nat)), (14, .int .i64 fst), (21, .pointer (some ⟨b34, 0, none⟩)), (23, .pointer (some ⟨b41, 0, none⟩))]) ⟨by kernel_rfl, by kernel_rfl, by kernel_rfl, by kernel_rfl, by kernel_rfl, by kernel_rfl, by kernel_rfl, by kernel_rfl, by kernel_rfl, by kernel_rfl, trivial⟩
        have S : Sat w z [rest w (· < w.heap.size), box b1 32 [.slice As x.spots.length cs, .slice Ae x.edges.length ce], box b2 92 [.slice none 0 0, .slice none 0 0, .slice none 0 0, .int .u64 0], row 3 1 (.slice A44 ((([node, fst] : List Int) ++ (mb.r.nodes.drop 1)).length) c45) ((([node, fst] : List Int) ++ (mb.r.nodes.drop 1)).length) ((([node, fst] : List Int) ++ (mb.r.nodes.drop 1)).flatMap iC_i64), row 3 1 (.slice (some ⟨b33, 0, none⟩) 1 1) 1 (([(ko : Nat)] : List Int).flatMap iC_i64), box b34 92 [.slice A44 ((([node, fst] : List Int) ++ (mb.r.nodes.drop 1)).length) c45, .slice (some ⟨b33, 0, none⟩) 1 1, .slice none 0 0, .int .u64 0], row 26 1 (.slice (some ⟨b35, 0, none⟩) 0 0) 0 (([] : List Int).flatMap iC_u64), row 107 2 (.slice A37 (((withoutP x node).spots).length) c38) (((withoutP x node).spots).length) (((withoutP x node).spots).flatMap spC), row 62 8 (.slice A39 (((withoutP x node).edges).length) c40) (((withoutP x node).edges).length) (((withoutP x node).edges).flatMap edC), bag (R3.flatMap rtRows), box b41 47 [.slice mb.A1 mb.r.nodes.length mb.c1, .slice mb.A2 mb.r.edges.length mb.c2, .slice mb.A3 mb.r.amts.length mb.c3]] := S
        refine then_n ?_
        refine s_reg ?_
        refine l_pure 1 (fun L => (127, .pointer (some ⟨b34, 1, none⟩)) :: L) F (by kernel_rfl) fun a F => ?_
        refine l_do F rfl rfl (op_load _ _ (some ⟨b34, 0, none⟩) 1 (.slice (some ⟨b33, 0, none⟩) 1 1) F rfl (by kernel_rfl) (by kernel_rfl) (cBox S 5 rfl (j := 1) rfl) (fun a F => ?_))
        refine l_pure 1 (fun L => (129, .pointer (some ⟨b41, 1, none⟩)) :: L) F (by kernel_rfl) fun a F => ?_
        refine l_do F rfl rfl (op_load _ _ (some ⟨b41, 0, none⟩) 1 (.slice mb.A2 mb.r.edges.length mb.c2) F rfl (by kernel_rfl) (by kernel_rfl) (cBox S 10 rfl (j := 1) rfl) (fun a F => ?_))
        refine l_do F rfl rfl (op_append S 4 _ _ _ 3 (.int .i64 0) 1 8 ([(ko : Nat)] : List Int) mb.r.edges iC_i64 mb.A2 mb.c2 F iC_len_i64 (fun _ => rfl) rfl rfl (by kernel_rfl) (by kernel_rfl) rfl rfl rfl (by kernel_rfl) (by kernel_rfl) ((bag_edges S 9 rfl hmbm (by omega))).none_ ((bag_edges S 9 rfl hmbm (by omega))).src (by first | omega | (simp <;> omega)) fun A48 c49 z S a F => ?_)
        refine l_pure 1 (fun L => (132, .pointer (some ⟨b34, 1, none⟩)) :: L) F (by kernel_rfl) fun a F => ?_
        refine l_do F rfl rfl (op_storeB S 5 _ _ _ b34 1 (.slice A48 ((([(ko : Nat)] : List Int) ++ mb.r.edges).length) c49) F rfl rfl (by kernel_rfl) (by kernel_rfl) (by kernel_rfl) (by kernel_rfl) (by kernel_rfl) fun z S a F => ?_)
        have S : Sat w z [rest w (· < w.heap.size), box b1 32 [.slice As x.spots.length cs, .slice Ae x.edges.length ce], box b2 92 [.slice none 0 0, .slice none 0 0, .slice none 0 0, .int .u64 0], row 3 1 (.slice A44 ((([node, fst] : List Int) ++ (mb.r.nodes.drop 1)).length) c45) ((([node, fst] : List Int) ++ (mb.r.nodes.drop 1)).length) ((([node, fst] : List Int) ++ (mb.r.nodes.drop 1)).flatMap iC_i64), row 3 1 (.slice A48 ((([(ko : Nat)] : List Int) ++ mb.r.edges).length) c49) ((([(ko : Nat)] : List Int) ++ mb.r.edges).length) ((([(ko : Nat)] : List Int) ++ mb.r.edges).flatMap iC_i64), box b34 92 [.slice A44 ((([node, fst] : List Int) ++ (mb.r.nodes.drop 1)).length) c45, .slice A48 ((([(ko : Nat)] : List Int) ++ mb.r.edges).length) c49, .slice none 0 0, .int .u64 0], row 26 1 (.slice (some ⟨b35, 0, none⟩) 0 0) 0 (([] : List Int).flatMap iC_u64), row 107 2 (.slice A37 (((withoutP x node).spots).length) c38) (((withoutP x node).spots).length) (((withoutP x node).spots).flatMap spC), row 62 8 (.slice A39 (((withoutP x node).edges).length) c40) (((withoutP x node).edges).length) (((withoutP x node).edges).flatMap edC), bag (R3.flatMap rtRows), box b41 47 [.slice mb.A1 mb.r.nodes.length mb.c1, .slice mb.A2 mb.r.edges.length mb.c2, .slice mb.A3 mb.r.amts.length mb.c3]] := S
        refine l_then ?_
        refine s_reg ?_
        refine l_pure 1 (fun L => (133, .pointer (some ⟨b41, 2, none⟩)) :: L) F (by kernel_rfl) fun a F => ?_
        refine l_do F rfl rfl (op_load _ _ (some ⟨b41, 0, none⟩) 2 (.slice mb.A3 mb.r.amts.length mb.c3) F rfl (by kernel_rfl) (by kernel_rfl) (cBox S 10 rfl (j := 2) rfl) (fun a F => ?_))
        refine l_pure 1 (fun L => (22, .slice mb.A3 mb.r.amts.length mb.c3) :: L) F (by kernel_rfl) fun a F => ?_
        refine l_then ?_
        refine wp_seq ?_
        have S := S.pushEmp
        refine region_gx (fun D => fun (b50 : Nat) => [rest w (· < w.heap.size), box b1 32 [.slice As x.spots.length cs, .slice Ae x.edges.length ce], box b2 92 [.slice none 0 0, .slice none 0 0, .slice none 0 0, .int .u64 0], row 3 1 (.slice A44 ((([node, fst] : List Int) ++ (mb.r.nodes.drop 1)).length) c45) ((([node, fst] : List Int) ++ (mb.r.nodes.drop 1)).length) ((([node, fst] : List Int) ++ (mb.r.nodes.drop 1)).flatMap iC_i64), row 3 1 (.slice A48 ((([(ko : Nat)] : List Int) ++ mb.r.edges).length) c49) ((([(ko : Nat)] : List Int) ++ mb.r.edges).length) ((([(ko : Nat)] : List Int) ++ mb.r.edges).flatMap iC_i64), box b34 92 [.slice A44 ((([node, fst] : List Int) ++ (mb.r.nodes.drop 1)).length) c45, .slice A48 ((([(ko : Nat)] : List Int) ++ mb.r.edges).length) c49, .slice none 0 0, .int .u64 0], row 26 1 (.slice (some ⟨b35, 0, none⟩) 0 0) 0 (([] : List Int).flatMap iC_u64), row 107 2 (.slice A37 (((withoutP x node).spots).length) c38) (((withoutP x node).spots).length) (((withoutP x node).spots).flatMap spC), row 62 8 (.slice A39 (((withoutP x node).edges).length) c40) (((withoutP x node).edges).length) (((withoutP x node).edges).flatMap edC), bag (R3.flatMap rtRows), box b41 47 [.slice mb.A1 mb.r.nodes.length mb.c1, .slice mb.A2 mb.r.edges.length mb.c2, .slice mb.A3 mb.r.amts.length mb.c3], bif D 9 then box b50 62 [.int .i64 ej.a, .int .i64 ej.b, .int .u64 ej.c0, .int .u64 ej.c1, .int .u64 ej.b0, .int .u64 ej.r0, .int .u64 ej.b1, .int .u64 ej.r1] else (bif D 8 then box b50 62 [.int .i64 0, .int .i64 0, .int .u64 0, .int .u64 0, .int .u64 0, .int .u64 0, .int .u64 0, .int .u64 0] else emp)]) (fun (b50 : Nat) => [.pointer (some ⟨b1, 1, none⟩), .slice Ae x.edges.length ce, .pointer (some ⟨b41, 1, none⟩), .slice mb.A2 mb.r.edges.length mb.c2, ptrA mb.A2 (0 * 1), .int .i64 (j : Nat), ptrA Ae (j * 8), .agg #[.int .i64 ej.a, .int .i64 ej.b, .int .u64 ej.c0, .int .u64 ej.c1, .int .u64 ej.b0, .int .u64 ej.r0, .int .u64 ej.b1, .int .u64 ej.r1], .pointer (some ⟨b50, 0, none⟩), undef]) [(1, [], [6, 7, 9]), (3, [], [4, 5, 6, 7, 9]), (4, [3], [5, 6, 7, 9]), (5, [3, 4], [6, 7, 9]), (6, [1, 3, 4, 5], [7, 9]), (7, [1, 3, 4, 5, 6], [9]), (8, [], [9]), (9, [1, 3, 4, 5, 6, 7, 8], [])] 0 rfl (by kernel_rfl) (by kernel_rfl) F S.drew ?_ ?_ ?_ ?_ ?_
        · rintro b50; rfl
        · rintro b50; kernel_rfl
        ·
         intro D D' x h
         obtain b50 := x
         simp only [h 8 (by decide), h 9 (by decide)]
        ·
         refine ⟨?_, ?_⟩
         ·
          refine ⟨_, rfl, rfl, by kernel_rfl, ?_⟩
          rintro D b50 a z S F
          refine ⟨by kernel_rfl, ?_⟩
          exact op_load _ _ (some ⟨b1, 0, none⟩) 1 (.slice Ae x.edges.length ce) F rfl (by kernel_rfl) (by kernel_rfl) (cBox S 1 rfl (j := 1) rfl) (⟨b50, rfl, (SameB.refl _ _ rfl), S⟩)
         refine ⟨?_, ?_⟩
         ·
          refine ⟨_, rfl, rfl, by kernel_rfl, ?_⟩
          rintro D b50 a z S F
          refine ⟨by kernel_rfl, ?_⟩
          exact op_load _ _ (some ⟨b41, 0, none⟩) 1 (.slice mb.A2 mb.r.edges.length mb.c2) F rfl (by kernel_rfl) (by kernel_rfl) (cBox S 10 rfl (j := 1) rfl) (⟨b50, rfl, (SameB.refl _ _ rfl), S⟩)
         refine ⟨?_, ?_⟩
         ·
          refine ⟨_, rfl, rfl, by kernel_rfl, ?_⟩
          rintro D b50 a z S F
          refine ⟨by kernel_rfl, ?_⟩
          exact op_index _ 3 _ _ mb.A2 mb.r.edges.length mb.c2 0 1 .i64 F rfl (by kernel_rfl) (by kernel_rfl) (by kernel_rfl) (by kernel_rfl) (get_lt hej0) (recs_some (bag_edges S 9 rfl hmbm (by omega)) (m := 0) (get_lt hej0)) (⟨b50, rfl, (SameB.refl _ _ rfl), S⟩)
         refine ⟨?_, ?_⟩
         ·
          refine ⟨_, rfl, rfl, by kernel_rfl, ?_⟩
          rintro D b50 a z S F
          refine ⟨by kernel_rfl, ?_⟩
          exact op_load _ _ mb.A2 (0 * 1) (.int .i64 (j : Nat)) F rfl (by kernel_rfl) (by kernel_rfl) (recs_cell iC_len_i64 (bag_edges S 9 rfl hmbm (by omega)) 0 hej0 rfl) (⟨b50, rfl, (SameB.refl _ _ rfl), S⟩)
         refine ⟨?_, ?_⟩
         ·
          refine ⟨_, rfl, rfl, by kernel_rfl, ?_⟩
          rintro D b50 a z S F
          refine ⟨by kernel_rfl, ?_⟩
          exact op_index _ 62 _ _ Ae x.edges.length ce j 8 .i64 F rfl (by kernel_rfl) (by kernel_rfl) (by kernel_rfl) (by kernel_rfl) (get_lt hej) (recs_some h.e (m := j) (get_lt hej)) (⟨b50, rfl, (SameB.refl _ _ rfl), S⟩)
         refine ⟨?_, ?_⟩
         ·
          refine ⟨_, rfl, rfl, by kernel_rfl, ?_⟩
          rintro D b50 a z S F
          refine ⟨by kernel_rfl, ?_⟩
          exact op_loadK _ _ Ae (j * 8) [.int .i64 ej.a, .int .i64 ej.b, .int .u64 ej.c0, .int .u64 ej.c1, .int .u64 ej.b0, .int .u64 ej.r0, .int .u64 ej.b1, .int .u64 ej.r1] F rfl (by kernel_rfl) (by kernel_rfl) (by kernel_rfl) (by simp) (cOldK0 S 0 edC_len h.e rfl hej (by kernel_rfl)) (⟨b50, rfl, (SameB.refl _ _ rfl), S⟩)
         refine ⟨?_, ?_⟩
         ·
          refine ⟨_, rfl, rfl, by kernel_rfl, ?_⟩
          rintro D b50 a z S F
          refine ⟨by kernel_rfl, ?_⟩
          exact op_allocF S 11 rfl _ (.agg #[.int .i64 0, .int .i64 0, .int .u64 0, .int .u64 0, .int .u64 0, .int .u64 0, .int .u64 0, .int .u64 0]) rfl (by kernel_rfl) fun y51 z S => ⟨y51, rfl, ⟨rfl, rfl, rfl, rfl, rfl, rfl, rfl, rfl, trivial, trivial, trivial⟩, S⟩
         refine ⟨?_, ?_⟩
         ·
          refine ⟨_, rfl, rfl, by kernel_rfl, ?_⟩
          rintro D b50 a z S F
          refine ⟨by kernel_rfl, ?_⟩
          exact op_storeB S 11 _ _ _ b50 0 (.agg #[.int .i64 ej.a, .int .i64 ej.b, .int .u64 ej.c0, .int .u64 ej.c1, .int .u64 ej.b0, .int .u64 ej.r0, .int .u64 ej.b1, .int .u64 ej.r1]) F rfl rfl (by kernel_rfl) (by kernel_rfl) (by kernel_rfl) (by kernel_rfl) (by kernel_rfl) fun z S => ⟨b50, rfl, (SameB.refl _ _ rfl), S⟩
         trivial
        ·
         rintro b50 a z F S
         have F := F.sub (l := [(1, .int .i64 node), (2, .int .i64 (ko : Nat)), (3, .int .i64 (ki : Nat)), (4, .int .u64 am), (5, .pointer (some ⟨b1, 0, none⟩)), (10, .pointer (some ⟨b2, 0, none⟩)), (13, .int .i64 (sv : Nat)), (14, .int .i64 fst), (21, .pointer (some ⟨b34, 0, none⟩)), (22, .slice mb.A3 mb.r.amts.length mb.c3), (23, .pointer (some ⟨b41, 0, none⟩)), (25, .pointer (some ⟨b50, 0, none⟩))]) ⟨by kernel_rfl, by kernel_rfl, by kernel_rfl, by kernel_rfl, by kernel_rfl, by kernel_rfl, by kernel_rfl, by kernel_rfl, by kernel_rfl, by kernel_rfl, by kernel_rfl, by kernel_rfl, trivial⟩
         have S : Sat w z [rest w (· < w.heap.size), box b1 32 [.slice As x.spots.length cs, .slice Ae x.edges.length ce], box b2 92 [.slice none 0 0, .slice none 0 0, .slice none 0 0, .int .u64 0], row 3 1 (.slice A44 ((([node, fst] : List Int) ++ (mb.r.nodes.drop 1)).length) c45) ((([node, fst] : List Int) ++ (mb.r.nodes.drop 1)).length) ((([node, fst] : List Int) ++ (mb.r.nodes.drop 1)).flatMap iC_i64), row 3 1 (.slice A48 ((([(ko : Nat)] : List Int) ++ mb.r.edges).length) c49) ((([(ko : Nat)] : List Int) ++ mb.r.edges).length) ((([(ko : Nat)] : List Int) ++ mb.r.edges).flatMap iC_i64), box b34 92 [.slice A44 ((([node, fst] : List Int) ++ (mb.r.nodes.drop 1)).length) c45, .slice A48 ((([(ko : Nat)] : List Int) ++ mb.r.edges).length) c49, .slice none 0 0, .int .u64 0], row 26 1 (.slice (some ⟨b35, 0, none⟩) 0 0) 0 (([] : List Int).flatMap iC_u64), row 107 2 (.slice A37 (((withoutP x node).spots).length) c38) (((withoutP x node).spots).length) (((withoutP x node).spots).flatMap spC), row 62 8 (.slice A39 (((withoutP x node).edges).length) c40) (((withoutP x node).edges).length) (((withoutP x node).edges).flatMap edC), bag (R3.flatMap rtRows), box b41 47 [.slice mb.A1 mb.r.nodes.length mb.c1, .slice mb.A2 mb.r.edges.length mb.c2, .slice mb.A3 mb.r.amts.length mb.c3], box b50 62 [.int .i64 ej.a, .int .i64 ej.b, .int .u64 ej.c0, .int .u64 ej.c1, .int .u64 ej.b0, .int .u64 ej.r0, .int .u64 ej.b1, .int .u64 ej.r1]] := S
         refine then_n ?_
         refine wp_seq ?_
         refine region_gx (fun D => fun (_ : Unit) => [rest w (· < w.heap.size), box b1 32 [.slice As x.spots.length cs, .slice Ae x.edges.length ce], box b2 92 [.slice none 0 0, .slice none 0 0, .slice none 0 0, .int .u64 0], row 3 1 (.slice A44 ((([node, fst] : List Int) ++ (mb.r.nodes.drop 1)).length) c45) ((([node, fst] : List Int) ++ (mb.r.nodes.drop 1)).length) ((([node, fst] : List Int) ++ (mb.r.nodes.drop 1)).flatMap iC_i64), row 3 1 (.slice A48 ((([(ko : Nat)] : List Int) ++ mb.r.edges).length) c49) ((([(ko : Nat)] : List Int) ++ mb.r.edges).length) ((([(ko : Nat)] : List Int) ++ mb.r.edges).flatMap iC_i64), box b34 92 [.slice A44 ((([node, fst] : List Int) ++ (mb.r.nodes.drop 1)).length) c45, .slice A48 ((([(ko : Nat)] : List Int) ++ mb.r.edges).length) c49, .slice none 0 0, .int .u64 0], row 26 1 (.slice (some ⟨b35, 0, none⟩) 0 0) 0 (([] : List Int).flatMap iC_u64), row 107 2 (.slice A37 (((withoutP x node).spots).length) c38) (((withoutP x node).spots).length) (((withoutP x node).spots).flatMap spC), row 62 8 (.slice A39 (((withoutP x node).edges).length) c40) (((withoutP x node).edges).length) (((withoutP x node).edges).flatMap edC), bag (R3.flatMap rtRows), box b41 47 [.slice mb.A1 mb.r.nodes.length mb.c1, .slice mb.A2 mb.r.edges.length mb.c2, .slice mb.A3 mb.r.amts.length mb.c3], box b50 62 [.int .i64 ej.a, .int .i64 ej.b, .int .u64 ej.c0, .int .u64 ej.c1, .int .u64 ej.b0, .int .u64 ej.r0, .int .u64 ej.b1, .int .u64 ej.r1]]) (fun (_ : Unit) => [.agg #[.int .i64 ej.a, .int .i64 ej.b, .int .u64 ej.c0, .int .u64 ej.c1, .int .u64 ej.b0, .int .u64 ej.r0, .int .u64 ej.b1, .int .u64 ej.r1], .int .i64 fst, .int .i64 (sj : Nat), .pointer (some ⟨b50, 4, none⟩), ptrA (some ⟨b50, 0, none⟩) (4 + sj * 2), .agg #[.int .u64 (ej.base (sj : Nat)), .int .u64 (ej.rate (sj : Nat))], .pointer (some ⟨b41, 2, none⟩), .slice mb.A3 mb.r.amts.length mb.c3, ptrA mb.A3 (0 * 1), .int .u64 um, .tuple #[.int .u64 ((overP (ej.base (sj : Nat)) (ej.rate (sj : Nat)) um).1), .int .i64 ((overP (ej.base (sj : Nat)) (ej.rate (sj : Nat)) um).2)], .tuple #[.int .u64 ((overP (ej.base (sj : Nat)) (ej.rate (sj : Nat)) um).1), .int .i64 ((overP (ej.base (sj : Nat)) (ej.rate (sj : Nat)) um).2)], .int .u64 ((overP (ej.base (sj : Nat)) (ej.rate (sj : Nat)) um).1), .int .i64 ((overP (ej.base (sj : Nat)) (ej.rate (sj : Nat)) um).2), .int .u64 ((overP (ej.base (sj : Nat)) (ej.rate (sj : Nat)) um).1), .int .i64 ((overP (ej.base (sj : Nat)) (ej.rate (sj : Nat)) um).2)]) [(0, [], [2, 4, 5, 10]), (2, [0], [4, 5, 10]), (4, [0, 2], [5, 10]), (5, [0, 2, 4], [10]), (7, [], [8, 9, 10]), (8, [7], [9, 10]), (9, [7, 8], [10]), (10, [0, 2, 4, 5, 7, 8, 9], [])] () rfl (by kernel_rfl) (by kernel_rfl) F S.drew ?_ ?_ ?_ ?_ ?_
         · rintro ⟨⟩; rfl
         · rintro ⟨⟩; kernel_rfl
         ·
          intro D D' x h
          cases x
          rfl
         ·
          refine ⟨?_, ?_⟩
          ·
           refine ⟨_, rfl, rfl, by kernel_rfl, ?_⟩
           rintro D ⟨⟩ a z S F
           refine ⟨by kernel_rfl, ?_⟩
           exact op_loadK _ _ (some ⟨b50, 0, none⟩) 0 [.int .i64 ej.a, .int .i64 ej.b, .int .u64 ej.c0, .int .u64 ej.c1, .int .u64 ej.b0, .int .u64 ej.r0, .int .u64 ej.b1, .int .u64 ej.r1] F rfl (by kernel_rfl) (by kernel_rfl) (by kernel_rfl) (by simp) (cBoxK S 11 rfl 0 (by kernel_rfl)) (⟨(), rfl, (SameB.refl _ _ rfl), S⟩)
          refine ⟨?_, ?_⟩
          ·
           refine ⟨_, rfl, rfl, by kernel_rfl, ?_⟩
           rintro D ⟨⟩ a z S F
           refine ⟨by kernel_rfl, ?_⟩
           refine op_fn F (by kernel_rfl) (side_at hs5 _) ?_
           rintro e z ⟨rfl, hb⟩
           have S := S.grow hb
           exact ⟨_, rfl, (), rfl, (SameB.refl _ _ rfl), S⟩
          refine ⟨?_, ?_⟩
          ·
           refine ⟨_, rfl, rfl, by kernel_rfl, ?_⟩
           rintro D ⟨⟩ a z S F
           refine ⟨by kernel_rfl, ?_⟩
           exact op_indexArr _ 59 _ _ (some ⟨b50, 0, none⟩) (4) 2 sj 2 .i64 F rfl (by kernel_rfl) (by kernel_rfl) (by kernel_rfl) (by kernel_rfl) (by omega) rfl (⟨(), rfl, (SameB.refl _ _ rfl), S⟩)
          refine ⟨?_, ?_⟩
          ·
           refine ⟨_, rfl, rfl, by kernel_rfl, ?_⟩
           rintro D ⟨⟩ a z S F
           refine ⟨by kernel_rfl, ?_⟩
           exact op_loadK _ _ (some ⟨b50, 0, none⟩) (4 + sj * 2) [.int .u64 (ej.base (sj : Nat)), .int .u64 (ej.rate (sj : Nat))] F rfl (by kernel_rfl) (by kernel_rfl) (by kernel_rfl) (by simp) (two_cells (cell_off (cBox S 11 rfl (edC_base ej (m := sj) (by omega))) (by omega)) (cell_off (cBox S 11 rfl (edC_rate ej (m := sj) (by omega))) (by omega))) (⟨(), rfl, (SameB.refl _ _ rfl), S⟩)
          refine ⟨?_, ?_⟩
          ·
           refine ⟨_, rfl, rfl, by kernel_rfl, ?_⟩
           rintro D ⟨⟩ a z S F
           refine ⟨by kernel_rfl, ?_⟩
           exact op_load _ _ (some ⟨b41, 0, none⟩) 2 (.slice mb.A3 mb.r.amts.length mb.c3) F rfl (by kernel_rfl) (by kernel_rfl) (cBox S 10 rfl (j := 2) rfl) (⟨(), rfl, (SameB.refl _ _ rfl), S⟩)
          refine ⟨?_, ?_⟩
          ·
           refine ⟨_, rfl, rfl, by kernel_rfl, ?_⟩
           rintro D ⟨⟩ a z S F
           refine ⟨by kernel_rfl, ?_⟩
           exact op_index _ 26 _ _ mb.A3 mb.r.amts.length mb.c3 0 1 .i64 F rfl (by kernel_rfl) (by kernel_rfl) (by kernel_rfl) (by kernel_rfl) (get_lt hum) (recs_some (bag_amts S 9 rfl hmbm (by omega)) (m := 0) (get_lt hum)) (⟨(), rfl, (SameB.refl _ _ rfl), S⟩)
          refine ⟨?_, ?_⟩
          ·
           refine ⟨_, rfl, rfl, by kernel_rfl, ?_⟩
           rintro D ⟨⟩ a z S F
           refine ⟨by kernel_rfl, ?_⟩
           exact op_load _ _ mb.A3 (0 * 1) (.int .u64 um) F rfl (by kernel_rfl) (by kernel_rfl) (recs_cell iC_len_u64 (bag_amts S 9 rfl hmbm (by omega)) 0 hum rfl) (⟨(), rfl, (SameB.refl _ _ rfl), S⟩)
          refine ⟨?_, ?_⟩
          ·
           refine ⟨_, rfl, rfl, by kernel_rfl, ?_⟩
           rintro D ⟨⟩ a z S F
           refine ⟨by kernel_rfl, ?_⟩
           refine op_fn F (by kernel_rfl) (over_any (ej.base (sj : Nat)) (ej.rate (sj : Nat)) um (hokj.base _) (hokj.rate _) huu _) ?_
           rintro e z ⟨rfl, hb⟩
           have S := S.grow hb
           exact ⟨_, rfl, (), rfl, (SameB.refl _ _ rfl), S⟩
          trivial
         ·
          rintro ⟨⟩ a z F S
          have F := F.sub (l := [(1, .int .i64 node), (2, .int .i64 (ko : Nat)), (3, .int .i64 (ki : Nat)), (4, .int .u64 am), (5, .pointer (some ⟨b1, 0, none⟩)), (10, .pointer (some ⟨b2, 0, none⟩)), (13, .int .i64 (sv : Nat)), (20, .int .u64 ((overP (ej.base (sj : Nat)) (ej.rate (sj : Nat)) um).1)), (21, .pointer (some ⟨b34, 0, none⟩)), (22, .slice mb.A3 mb.r.amts.length mb.c3), (24, .int .i64 ((overP (ej.base (sj : Nat)) (ej.rate (sj : Nat)) um).2))]) ⟨by kernel_rfl, by kernel_rfl, by kernel_rfl, by kernel_rfl, by kernel_rfl, by kernel_rfl, by kernel_rfl, by kernel_rfl, by kernel_rfl, by kernel_rfl, by kernel_rfl, trivial⟩
          have S : Sat w z [rest w (· < w.heap.size), box b1 32 [.slice As x.spots.length cs, .slice Ae x.edges.length ce], box b2 92 [.slice none 0 0, .slice none 0 0, .slice none 0 0, .int .u64 0], row 3 1 (.slice A44 ((([node, fst] : List Int) ++ (mb.r.nodes.drop 1)).length) c45) ((([node, fst] : List Int) ++ (mb.r.nodes.drop 1)).length) ((([node, fst] : List Int) ++ (mb.r.nodes.drop 1)).flatMap iC_i64), row 3 1 (.slice A48 ((([(ko : Nat)] : List Int) ++ mb.r.edges).length) c49) ((([(ko : Nat)] : List Int) ++ mb.r.edges).length) ((([(ko : Nat)] : List Int) ++ mb.r.edges).flatMap iC_i64), box b34 92 [.slice A44 ((([node, fst] : List Int) ++ (mb.r.nodes.drop 1)).length) c45, .slice A48 ((([(ko : Nat)] : List Int) ++ mb.r.edges).length) c49, .slice none 0 0, .int .u64 0], row 26 1 (.slice (some ⟨b35, 0, none⟩) 0 0) 0 (([] : List Int).flatMap iC_u64), row 107 2 (.slice A37 (((withoutP x node).spots).length) c38) (((withoutP x node).spots).length) (((withoutP x node).spots).flatMap spC), row 62 8 (.slice A39 (((withoutP x node).edges).length) c40) (((withoutP x node).edges).length) (((withoutP x node).edges).flatMap edC), bag (R3.flatMap rtRows), box b41 47 [.slice mb.A1 mb.r.nodes.length mb.c1, .slice mb.A2 mb.r.edges.length mb.c2, .slice mb.A3 mb.r.amts.length mb.c3], box b50 62 [.int .i64 ej.a, .int .i64 ej.b, .int .u64 ej.c0, .int .u64 ej.c1, .int .u64 ej.b0, .int .u64 ej.r0, .int .u64 ej.b1, .int .u64 ej.r1]] := S
          refine then_n ?_
          refine s_reg ?_
          refine l_pure 1 (fun L => (157, .int .i64 ((overP (ej.base (sj : Nat)) (ej.rate (sj : Nat)) um).2)) :: L) F (by kernel_rfl) fun a F => ?_
          by_cases ht52 : ((overP (ej.base (sj : Nat)) (ej.rate (sj : Nat)) um).2 : Int) = (0 : Int)
          ·
           skip
           have hfe2 := ht52
           have hmid : cycMid x node fst lst q = (mb.r, (overP (ej.base (sj : Nat)) (ej.rate (sj : Nat)) um).1, 0) := by
             rw [mid_in (x := x) (node := node) hfl hbest (by omega) hej0 hej hs5 hum]
             exact if_neg (fun h9 => h9 hfe2)
           obtain ⟨hf3, hf4⟩ := over_fit huu (hokj.base _) (hokj.rate _) hfe2
           refine l_do F rfl rfl (op_pure F (v0 := .bool (((overP (ej.base (sj : Nat)) (ej.rate (sj : Nat)) um).2 : Int) != (0 : Int))) (v := .bool false) (by kernel_rfl) (neqF ht52) fun a F => ?_)
           refine l_then ?_
           refine c_f F rfl ?_
           refine wp_skip ?_
           refine then_n ?_
           have hX3 : (([node, fst] : List Int) ++ (mb.r.nodes.drop 1)) = (node :: fst :: List.drop 1 mb.r.nodes : List Int) := by simp [noRt]
           have S := S.rowEq 3 hX3 (show (([node, fst] : List Int) ++ (mb.r.nodes.drop 1)).length = ((node :: fst :: List.drop 1 mb.r.nodes : List Int)).length from congrArg List.length hX3) rfl
           have hX4 : (([(ko : Nat)] : List Int) ++ mb.r.edges) = ((ko : Int) :: mb.r.edges : List Int) := by simp [noRt]
           have S := S.rowEq 4 hX4 (show (([(ko : Nat)] : List Int) ++ mb.r.edges).length = (((ko : Int) :: mb.r.edges : List Int)).length from congrArg List.length hX4) rfl
           have S := S.rdOfBag 9 rfl hmbm
           have S : Sat w z [rest w (· < w.heap.size), box b1 32 [.slice As x.spots.length cs, .slice Ae x.edges.length ce], box b2 92 [.slice none 0 0, .slice none 0 0, .slice none 0 0, .int .u64 0], row 3 1 (.slice A44 ((node :: fst :: List.drop 1 mb.r.nodes : List Int).length) c45) ((node :: fst :: List.drop 1 mb.r.nodes : List Int).length) ((node :: fst :: List.drop 1 mb.r.nodes : List Int).flatMap iC_i64), row 3 1 (.slice A48 (((ko : Int) :: mb.r.edges : List Int).length) c49) (((ko : Int) :: mb.r.edges : List Int).length) (((ko : Int) :: mb.r.edges : List Int).flatMap iC_i64), box b34 92 [.slice A44 ((node :: fst :: List.drop 1 mb.r.nodes : List Int).length) c45, .slice A48 (((ko : Int) :: mb.r.edges : List Int).length) c49, .slice none 0 0, .int .u64 0], row 26 1 (.slice (some ⟨b35, 0, none⟩) 0 0) 0 (([] : List Int).flatMap iC_u64), row 107 2 (.slice A37 (((withoutP x node).spots).length) c38) (((withoutP x node).spots).length) (((withoutP x node).spots).flatMap spC), row 62 8 (.slice A39 (((withoutP x node).edges).length) c40) (((withoutP x node).edges).length) (((withoutP x node).edges).flatMap edC), rdRow mb.A3 mb.c3 (mb.r).amts, box b41 47 [.slice mb.A1 mb.r.nodes.length mb.c1, .slice mb.A2 mb.r.edges.length mb.c2, .slice mb.A3 mb.r.amts.length mb.c3], box b50 62 [.int .i64 ej.a, .int .i64 ej.b, .int .u64 ej.c0, .int .u64 ej.c1, .int .u64 ej.b0, .int .u64 ej.r0, .int .u64 ej.b1, .int .u64 ej.r1]] := S
           exact hcut29 _ _ ⟨b34, mb.r, (overP (ej.base (sj : Nat)) (ej.rate (sj : Nat)) um).1, A44, c45, A48, c49, mb.A3, mb.c3, hmid, (by omega), hf4, (by omega), (by omega), (by omega), F.sub ⟨by kernel_rfl, by kernel_rfl, by kernel_rfl, by kernel_rfl, by kernel_rfl, by kernel_rfl, by kernel_rfl, by kernel_rfl, by kernel_rfl, by kernel_rfl, trivial⟩, (S.pick [0, 1, 2, 5, 3, 4, 9] (by decide))⟩
          ·
           skip
           have hmid : cycMid x node fst lst q = (noRt, 0, (overP (ej.base (sj : Nat)) (ej.rate (sj : Nat)) um).2) := by
             rw [mid_in (x := x) (node := node) hfl hbest (by omega) hej0 hej hs5 hum]
             exact if_pos ht52
           obtain ⟨rfl, rfl⟩ := Prod.mk.inj (hq.symm.trans (cyc_mid' hcy hroom hov hF hL hmid ht52))
           refine l_do F rfl rfl (op_pure F (v0 := .bool (((overP (ej.base (sj : Nat)) (ej.rate (sj : Nat)) um).2 : Int) != (0 : Int))) (v := .bool true) (by kernel_rfl) (neqT ht52) fun a F => ?_)
           refine l_then ?_
           refine c_t F rfl ?_
           refine s_reg ?_
           refine l_pure 2 (fun L => (160, .int .i64 ((overP (ej.base (sj : Nat)) (ej.rate (sj : Nat)) um).2)) :: (159, .agg #[.slice none 0 0, .slice none 0 0, .slice none 0 0, .int .u64 0]) :: L) F (by kernel_rfl) fun a F => ?_
           refine l_do F rfl rfl (op_storeB S 2 _ _ _ b2 0 (.agg #[.slice none 0 0, .slice none 0 0, .slice none 0 0, .int .u64 0]) F rfl rfl (by kernel_rfl) (by kernel_rfl) (by kernel_rfl) (by kernel_rfl) (by kernel_rfl) fun z S a F => ?_)
           refine l_pure 1 (fun L => (11, .int .i64 ((overP (ej.base (sj : Nat)) (ej.rate (sj : Nat)) um).2)) :: L) F (by kernel_rfl) fun a F => ?_
           refine l_then ?_
           refine wp_ret ?_
           refine then_r (?_)
           exact fin F [.cell 10 92, .tmp 11] [.agg #[.slice none 0 0, .slice none 0 0, .slice none 0 0, .int .u64 0], .int .i64 ((overP (ej.base (sj : Nat)) (ej.rate (sj : Nat)) um).2)] rfl ⟨⟨_, by kernel_rfl, resK S 2 (cs := [.slice none 0 0, .slice none 0 0, .slice none 0 0, .int .u64 0]) rfl (by kernel_rfl) (by kernel_rfl) (by simp)⟩, by kernel_rfl, trivial⟩ (.tuple #[.agg #[.slice none 0 0, .slice none 0 0, .slice none 0 0, .int .u64 0], .int .i64 ((overP (ej.base (sj : Nat)) (ej.rate (sj : Nat)) um).2)]) rfl ⟨none, 0, none, 0, none, 0, by rw [cFee_bad (by assumption)]; rfl, (((S.nilRow 3 1).nilRow 3 1).nilRow 26 1).pick [0, 12, 13, 14] (by decide)⟩
     ·
      skip
      obtain ⟨rfl, rfl⟩ := Prod.mk.inj (hq.symm.trans (cyc_mid' hcy hroom hov hF hL (mid_err hfl (r := (bestRt (withoutP x node) fst lst q).1) (e := (bestRt (withoutP x node) fst lst q).2) rfl ht42) ht42))
      refine l_do F rfl rfl (op_pure F (v0 := .bool (((bestRt (withoutP x node) fst lst q).2 : Int) != (0 : Int))) (v := .bool true) (by kernel_rfl) (neqT ht42) fun a F => ?_)
      refine l_then ?_
      refine c_t F rfl ?_
      refine s_reg ?_
      refine l_pure 2 (fun L => (114, .int .i64 ((bestRt (withoutP x node) fst lst q).2)) :: (113, .agg #[.slice none 0 0, .slice none 0 0, .slice none 0 0, .int .u64 0]) :: L) F (by kernel_rfl) fun a F => ?_
      refine l_do F rfl rfl (op_storeB S 2 _ _ _ b2 0 (.agg #[.slice none 0 0, .slice none 0 0, .slice none 0 0, .int .u64 0]) F rfl rfl (by kernel_rfl) (by kernel_rfl) (by kernel_rfl) (by kernel_rfl) (by kernel_rfl) fun z S a F => ?_)
      refine l_pure 1 (fun L => (11, .int .i64 ((bestRt (withoutP x node) fst lst q).2)) :: L) F (by kernel_rfl) fun a F => ?_
      refine l_then ?_
      refine wp_ret ?_
      refine then_r (then_r (?_))
      exact fin F [.cell 10 92, .tmp 11] [.agg #[.slice none 0 0, .slice none 0 0, .slice none 0 0, .int .u64 0], .int .i64 ((bestRt (withoutP x node) fst lst q).2)] rfl ⟨⟨_, by kernel_rfl, resK S 2 (cs := [.slice none 0 0, .slice none 0 0, .slice none 0 0, .int .u64 0]) rfl (by kernel_rfl) (by kernel_rfl) (by simp)⟩, by kernel_rfl, trivial⟩ (.tuple #[.agg #[.slice none 0 0, .slice none 0 0, .slice none 0 0, .int .u64 0], .int .i64 ((bestRt (withoutP x node) fst lst q).2)]) rfl ⟨none, 0, none, 0, none, 0, by rw [cFee_bad (by assumption)]; rfl, (((S.nilRow 3 1).nilRow 3 1).nilRow 26 1).pick [0, 11, 12, 13] (by decide)⟩
  ·
   intro hcut14
   dsimp only [tailAt] at hcut14
   refine s_reg ?_
   refine l_do F rfl rfl (op_loadK _ _ (some ⟨b1, 0, none⟩) 0 [.slice As x.spots.length cs, .slice Ae x.edges.length ce] F rfl (by kernel_rfl) (by kernel_rfl) (by kernel_rfl) (by simp) (cBoxK S 1 rfl 0 (by kernel_rfl)) (fun a F => ?_))
   refine l_pure 2 (fun L => (35, .int .i64 node) :: (34, .int .i64 out) :: L) F (by kernel_rfl) fun a F => ?_
   rcases sideAtN_cases x out node with hsao | ⟨ko, eo, so, rfl, heo, hsao, hso, hso2⟩
   ·
    skip
    obtain ⟨rfl, rfl⟩ := Prod.mk.inj (hq.symm.trans (cyc_arg hc (.inl (by omega))))
    refine l_do F rfl rfl (op_fn F (by kernel_rfl) (ends_at _ As cs Ae ce x (h.move S rfl) ok out node (ends_bad hsao)) ?_)
    rintro e z ⟨rfl, hb⟩
    have S := S.grow hb
    refine ⟨_, rfl, ?_⟩
    intro a F
    refine l_pure 7 (fun L => (15, .int .i64 1) :: (14, .int .i64 0) :: (13, .int .i64 0) :: (39, .int .i64 1) :: (38, .int .i64 0) :: (37, .int .i64 0) :: (32, .tuple #[.int .i64 0, .int .i64 0, .int .i64 1]) :: L) F (by kernel_rfl) fun a F => ?_
    refine l_then ?_
    refine s_reg ?_
    refine l_do F rfl rfl (op_loadK _ _ (some ⟨b1, 0, none⟩) 0 [.slice As x.spots.length cs, .slice Ae x.edges.length ce] F rfl (by kernel_rfl) (by kernel_rfl) (by kernel_rfl) (by simp) (cBoxK S 1 rfl 0 (by kernel_rfl)) (fun a F => ?_))
    refine l_pure 2 (fun L => (43, .int .i64 node) :: (42, .int .i64 in_) :: L) F (by kernel_rfl) fun a F => ?_
    refine l_do F rfl rfl (op_fn F (by kernel_rfl) (ends_at _ As cs Ae ce x (h.move S rfl) ok in_ node (s := (endsP x in_ node).1) (q := (endsP x in_ node).2.1) (er := (endsP x in_ node).2.2) rfl) ?_)
    rintro e z ⟨rfl, hb⟩
    have S := S.grow hb
    refine ⟨_, rfl, ?_⟩
    intro a F
    refine l_pure 7 (fun L => (18, .int .i64 ((endsP x in_ node).2.2)) :: (17, .int .i64 ((endsP x in_ node).2.1)) :: (16, .int .i64 ((endsP x in_ node).1)) :: (47, .int .i64 ((endsP x in_ node).2.2)) :: (46, .int .i64 ((endsP x in_ node).2.1)) :: (45, .int .i64 ((endsP x in_ node).1)) :: (40, .tuple #[.int .i64 ((endsP x in_ node).1), .int .i64 ((endsP x in_ node).2.1), .int .i64 ((endsP x in_ node).2.2)]) :: L) F (by kernel_rfl) fun a F => ?_
    refine l_then ?_
    refine wp_seq ?_
    refine s_reg ?_
    refine l_pure 15 (fun L => (62, .bool true) :: (61, undef) :: (60, undef) :: (59, .bool true) :: (58, .bool true) :: (57, undef) :: (56, undef) :: (55, undef) :: (54, .bool true) :: (53, .bool true) :: (52, undef) :: (51, undef) :: (50, .bool true) :: (49, .bool true) :: (48, .int .i64 1) :: L) F (by kernel_rfl) fun a F => ?_
    refine l_then ?_
    refine c_t F rfl ?_
    refine s_reg ?_
    refine l_pure 1 (fun L => (63, .agg #[.slice none 0 0, .slice none 0 0, .slice none 0 0, .int .u64 0]) :: L) F (by kernel_rfl) fun a F => ?_
    refine l_do F rfl rfl (op_storeB S 2 _ _ _ b2 0 (.agg #[.slice none 0 0, .slice none 0 0, .slice none 0 0, .int .u64 0]) F rfl rfl (by kernel_rfl) (by kernel_rfl) (by kernel_rfl) (by kernel_rfl) (by kernel_rfl) fun z S a F => ?_)
    have S : Sat w z [rest w (· < w.heap.size), box b1 32 [.slice As x.spots.length cs, .slice Ae x.edges.length ce], box b2 92 [.slice none 0 0, .slice none 0 0, .slice none 0 0, .int .u64 0]] := S
    refine l_pure 1 (fun L => (11, .int .i64 1) :: L) F (by kernel_rfl) fun a F => ?_
    refine l_then ?_
    refine wp_ret ?_
    refine then_r (?_)
    exact fin F [.cell 10 92, .tmp 11] [.agg #[.slice none 0 0, .slice none 0 0, .slice none 0 0, .int .u64 0], .int .i64 1] rfl ⟨⟨_, by kernel_rfl, resK S 2 (cs := [.slice none 0 0, .slice none 0 0, .slice none 0 0, .int .u64 0]) rfl (by kernel_rfl) (by kernel_rfl) (by simp)⟩, by kernel_rfl, trivial⟩ (.tuple #[.agg #[.slice none 0 0, .slice none 0 0, .slice none 0 0, .int .u64 0], .int .i64 1]) rfl ⟨none, 0, none, 0, none, 0, by rw [cFee_bad (by decide)]; rfl, (((S.nilRow 3 1).nilRow 3 1).nilRow 26 1).pick [0, 3, 4, 5] (by decide)⟩
   ·
    skip
    refine l_do F rfl rfl (op_fn F (by kernel_rfl) (ends_at _ As cs Ae ce x (h.move S rfl) ok (ko : Nat) node (endsN heo hso hso2)) ?_)
    rintro e z ⟨rfl, hb⟩
    have S := S.grow hb
    refine ⟨_, rfl, ?_⟩
    intro a F
    refine l_pure 7 (fun L => (15, .int .i64 0) :: (14, .int .i64 (eo.endp (1 - so : Nat))) :: (13, .int .i64 (so : Nat)) :: (39, .int .i64 0) :: (38, .int .i64 (eo.endp (1 - so : Nat))) :: (37, .int .i64 (so : Nat)) :: (32, .tuple #[.int .i64 (so : Nat), .int .i64 (eo.endp (1 - so : Nat)), .int .i64 0]) :: L) F (by kernel_rfl) fun a F => ?_
    refine l_then ?_
    refine s_reg ?_
    refine l_do F rfl rfl (op_loadK _ _ (some ⟨b1, 0, none⟩) 0 [.slice As x.spots.length cs, .slice Ae x.edges.length ce] F rfl (by kernel_rfl) (by kernel_rfl) (by kernel_rfl) (by simp) (cBoxK S 1 rfl 0 (by kernel_rfl)) (fun a F => ?_))
    refine l_pure 2 (fun L => (43, .int .i64 node) :: (42, .int .i64 in_) :: L) F (by kernel_rfl) fun a F => ?_
    rcases sideAtN_cases x in_ node with hsai | ⟨ki, ei, si, rfl, hei, hsai, hsi, hsi2⟩
    ·
     skip
     obtain ⟨rfl, rfl⟩ := Prod.mk.inj (hq.symm.trans (cyc_arg hc (.inr (.inl (by omega)))))
     refine l_do F rfl rfl (op_fn F (by kernel_rfl) (ends_at _ As cs Ae ce x (h.move S rfl) ok in_ node (ends_bad hsai)) ?_)
     rintro e z ⟨rfl, hb⟩
     have S := S.grow hb
     refine ⟨_, rfl, ?_⟩
     intro a F
     refine l_pure 7 (fun L => (18, .int .i64 1) :: (17, .int .i64 0) :: (16, .int .i64 0) :: (47, .int .i64 1) :: (46, .int .i64 0) :: (45, .int .i64 0) :: (40, .tuple #[.int .i64 0, .int .i64 0, .int .i64 1]) :: L) F (by kernel_rfl) fun a F => ?_
     refine l_then ?_
     refine wp_seq ?_
     refine s_reg ?_
     refine l_pure 15 (fun L => (62, .bool true) :: (61, undef) :: (60, undef) :: (59, .bool true) :: (58, .bool true) :: (57, undef) :: (56, undef) :: (55, undef) :: (54, .bool true) :: (53, .bool true) :: (52, .bool true) :: (51, .int .i64 1) :: (50, .bool false) :: (49, .bool false) :: (48, .int .i64 0) :: L) F (by kernel_rfl) fun a F => ?_
     refine l_then ?_
     refine c_t F rfl ?_
     refine s_reg ?_
     refine l_pure 1 (fun L => (63, .agg #[.slice none 0 0, .slice none 0 0, .slice none 0 0, .int .u64 0]) :: L) F (by kernel_rfl) fun a F => ?_
     refine l_do F rfl rfl (op_storeB S 2 _ _ _ b2 0 (.agg #[.slice none 0 0, .slice none 0 0, .slice none 0 0, .int .u64 0]) F rfl rfl (by kernel_rfl) (by kernel_rfl) (by kernel_rfl) (by kernel_rfl) (by kernel_rfl) fun z S a F => ?_)
     refine l_pure 1 (fun L => (11, .int .i64 1) :: L) F (by kernel_rfl) fun a F => ?_
     refine l_then ?_
     refine wp_ret ?_
     refine then_r (?_)
     exact fin F [.cell 10 92, .tmp 11] [.agg #[.slice none 0 0, .slice none 0 0, .slice none 0 0, .int .u64 0], .int .i64 1] rfl ⟨⟨_, by kernel_rfl, resK S 2 (cs := [.slice none 0 0, .slice none 0 0, .slice none 0 0, .int .u64 0]) rfl (by kernel_rfl) (by kernel_rfl) (by simp)⟩, by kernel_rfl, trivial⟩ (.tuple #[.agg #[.slice none 0 0, .slice none 0 0, .slice none 0 0, .int .u64 0], .int .i64 1]) rfl ⟨none, 0, none, 0, none, 0, by rw [cFee_bad (by decide)]; rfl, (((S.nilRow 3 1).nilRow 3 1).nilRow 26 1).pick [0, 3, 4, 5] (by decide)⟩
    ·
     skip
     have hoki := ok.e ei (List.mem_of_getElem? hei)
     have oke := ok.e eo (List.mem_of_getElem? heo)
     refine l_do F rfl rfl (op_fn F (by kernel_rfl) (ends_at _ As cs Ae ce x (h.move S rfl) ok (ki : Nat) node (endsN hei hsi hsi2)) ?_)
     rintro e z ⟨rfl, hb⟩
     have S := S.grow hb
     refine ⟨_, rfl, ?_⟩
     intro a F
     refine l_pure 7 (fun L => (18, .int .i64 0) :: (17, .int .i64 (ei.endp (1 - si : Nat))) :: (16, .int .i64 (si : Nat)) :: (47, .int .i64 0) :: (46, .int .i64 (ei.endp (1 - si : Nat))) :: (45, .int .i64 (si : Nat)) :: (40, .tuple #[.int .i64 (si : Nat), .int .i64 (ei.endp (1 - si : Nat)), .int .i64 0]) :: L) F (by kernel_rfl) fun a F => ?_
     refine l_then ?_
     refine wp_seq ?_
     refine s_reg ?_
     refine l_pure 9 (fun L => (56, .int .i64 (ki : Nat)) :: (55, .int .i64 (ko : Nat)) :: (54, .bool false) :: (53, .bool false) :: (52, .bool false) :: (51, .int .i64 0) :: (50, .bool false) :: (49, .bool false) :: (48, .int .i64 0) :: L) F (by kernel_rfl) fun a F => ?_
     by_cases ht53 : ((ko : Nat) : Int) = ((ki : Nat) : Int)
     ·
      skip
      obtain ⟨rfl, rfl⟩ := Prod.mk.inj (hq.symm.trans (cyc_arg hc (.inr (.inr (.inl ht53)))))
      refine l_do F rfl rfl (op_pure F (v0 := .bool (((ko : Nat) : Int) == ((ki : Nat) : Int))) (v := .bool true) (by kernel_rfl) (eqlT ht53) fun a F => ?_)
      refine l_pure 5 (fun L => (62, .bool true) :: (61, undef) :: (60, undef) :: (59, .bool true) :: (58, .bool true) :: L) F (by kernel_rfl) fun a F => ?_
      refine l_then ?_
      refine c_t F rfl ?_
      refine s_reg ?_
      refine l_pure 1 (fun L => (63, .agg #[.slice none 0 0, .slice none 0 0, .slice none 0 0, .int .u64 0]) :: L) F (by kernel_rfl) fun a F => ?_
      refine l_do F rfl rfl (op_storeB S 2 _ _ _ b2 0 (.agg #[.slice none 0 0, .slice none 0 0, .slice none 0 0, .int .u64 0]) F rfl rfl (by kernel_rfl) (by kernel_rfl) (by kernel_rfl) (by kernel_rfl) (by kernel_rfl) fun z S a F => ?_)
      refine l_pure 1 (fun L => (11, .int .i64 1) :: L) F (by kernel_rfl) fun a F => ?_
      refine l_then ?_
      refine wp_ret ?_
      refine then_r (?_)
      exact fin F [.cell 10 92, .tmp 11] [.agg #[.slice none 0 0, .slice none 0 0, .slice none 0 0, .int .u64 0], .int .i64 1] rfl ⟨⟨_, by kernel_rfl, resK S 2 (cs := [.slice none 0 0, .slice none 0 0, .slice none 0 0, .int .u64 0]) rfl (by kernel_rfl) (by kernel_rfl) (by simp)⟩, by kernel_rfl, trivial⟩ (.tuple #[.agg #[.slice none 0 0, .slice none 0 0, .slice none 0 0, .int .u64 0], .int .i64 1]) rfl ⟨none, 0, none, 0, none, 0, by rw [cFee_bad (by decide)]; rfl, (((S.nilRow 3 1).nilRow 3 1).nilRow 26 1).pick [0, 3, 4, 5] (by decide)⟩
     ·
      skip
      have hne := ht53
      refine l_do F rfl rfl (op_pure F (v0 := .bool (((ko : Nat) : Int) == ((ki : Nat) : Int))) (v := .bool false) (by kernel_rfl) (eqlF ht53) fun a F => ?_)
      refine l_pure 3 (fun L => (60, .int .u64 am) :: (59, .bool false) :: (58, .bool false) :: L) F (by kernel_rfl) fun a F => ?_
      by_cases ht54 : (am : Int) = (0 : Int)
      ·
       skip
       obtain ⟨rfl, rfl⟩ := Prod.mk.inj (hq.symm.trans (cyc_arg hc (.inr (.inr (.inr ht54)))))
       refine l_do F rfl rfl (op_pure F (v0 := .bool ((am : Int) == (0 : Int))) (v := .bool true) (by kernel_rfl) (eqlT ht54) fun a F => ?_)
       refine l_pure 1 (fun L => (62, .bool true) :: L) F (by kernel_rfl) fun a F => ?_
       refine l_then ?_
       refine c_t F rfl ?_
       refine s_reg ?_
       refine l_pure 1 (fun L => (63, .agg #[.slice none 0 0, .slice none 0 0, .slice none 0 0, .int .u64 0]) :: L) F (by kernel_rfl) fun a F => ?_
       refine l_do F rfl rfl (op_storeB S 2 _ _ _ b2 0 (.agg #[.slice none 0 0, .slice none 0 0, .slice none 0 0, .int .u64 0]) F rfl rfl (by kernel_rfl) (by kernel_rfl) (by kernel_rfl) (by kernel_rfl) (by kernel_rfl) fun z S a F => ?_)
       have S : Sat w z [rest w (· < w.heap.size), box b1 32 [.slice As x.spots.length cs, .slice Ae x.edges.length ce], box b2 92 [.slice none 0 0, .slice none 0 0, .slice none 0 0, .int .u64 0]] := S
       refine l_pure 1 (fun L => (11, .int .i64 1) :: L) F (by kernel_rfl) fun a F => ?_
       refine l_then ?_
       refine wp_ret ?_
       refine then_r (?_)
       exact fin F [.cell 10 92, .tmp 11] [.agg #[.slice none 0 0, .slice none 0 0, .slice none 0 0, .int .u64 0], .int .i64 1] rfl ⟨⟨_, by kernel_rfl, resK S 2 (cs := [.slice none 0 0, .slice none 0 0, .slice none 0 0, .int .u64 0]) rfl (by kernel_rfl) (by kernel_rfl) (by simp)⟩, by kernel_rfl, trivial⟩ (.tuple #[.agg #[.slice none 0 0, .slice none 0 0, .slice none 0 0, .int .u64 0], .int .i64 1]) rfl ⟨none, 0, none, 0, none, 0, by rw [cFee_bad (by decide)]; rfl, (((S.nilRow 3 1).nilRow 3 1).nilRow 26 1).pick [0, 3, 4, 5] (by decide)⟩
      ·
       skip
       have hcy : CycAt x node am ko ki eo ei so si := ⟨hc, heo, hei, hso, hsi, hso2, hsi2, hne, ht54⟩
       refine l_do F rfl rfl (op_pure F (v0 := .bool ((am : Int) == (0 : Int))) (v := .bool false) (by kernel_rfl) (eqlF ht54) fun a F => ?_)
       refine l_pure 1 (fun L => (62, .bool false) :: L) F (by kernel_rfl) fun a F => ?_
       refine l_then ?_
       refine c_f F rfl ?_
       refine wp_skip ?_
       refine then_n ?_
       refine s_reg ?_
       refine l_pure 1 (fun L => (64, .pointer (some ⟨b1, 1, none⟩)) :: L) F (by kernel_rfl) fun a F => ?_
       refine l_do F rfl rfl (op_load _ _ (some ⟨b1, 0, none⟩) 1 (.slice Ae x.edges.length ce) F rfl (by kernel_rfl) (by kernel_rfl) (cBox S 1 rfl (j := 1) rfl) (fun a F => ?_))
       refine l_pure 1 (fun L => (66, .int .i64 (ki : Nat)) :: L) F (by kernel_rfl) fun a F => ?_
       refine l_do F rfl rfl (op_index _ 62 _ _ Ae x.edges.length ce ki 8 .i64 F rfl (by kernel_rfl) (by kernel_rfl) (by kernel_rfl) (by kernel_rfl) (get_lt hei) (recs_some h.e (m := ki) (get_lt hei)) (fun a F => ?_))
       refine l_do F rfl rfl (op_loadK _ _ Ae (ki * 8) [.int .i64 ei.a, .int .i64 ei.b, .int .u64 ei.c0, .int .u64 ei.c1, .int .u64 ei.b0, .int .u64 ei.r0, .int .u64 ei.b1, .int .u64 ei.r1] F rfl (by kernel_rfl) (by kernel_rfl) (by kernel_rfl) (by simp) (cOldK0 S 0 edC_len h.e rfl hei (by kernel_rfl)) (fun a F => ?_))
       refine l_do F rfl rfl (op_alloc S _ (.agg #[.int .i64 0, .int .i64 0, .int .u64 0, .int .u64 0, .int .u64 0, .int .u64 0, .int .u64 0, .int .u64 0]) rfl (by kernel_rfl) fun b55 z S a F => ?_)
       refine l_do F rfl rfl (op_storeB S 3 _ _ _ b55 0 (.agg #[.int .i64 ei.a, .int .i64 ei.b, .int .u64 ei.c0, .int .u64 ei.c1, .int .u64 ei.b0, .int .u64 ei.r0, .int .u64 ei.b1, .int .u64 ei.r1]) F rfl rfl (by kernel_rfl) (by kernel_rfl) (by kernel_rfl) (by kernel_rfl) (by kernel_rfl) fun z S a F => ?_)
       refine l_then ?_
       refine wp_seq ?_
       refine s_reg ?_
       refine l_pure 1 (fun L => (69, .int .i64 (si : Nat)) :: L) F (by kernel_rfl) fun a F => ?_
       refine l_do F rfl rfl (op_pure F (v0 := .int .i64 (IntKind.wrap .i64 (1 - (si : Nat)))) (v := .int .i64 (1 - si : Nat)) (by kernel_rfl) (wrn_i64 (by omega) (by omega) (by omega)) fun a F => ?_)
       refine l_pure 1 (fun L => (71, .pointer (some ⟨b55, 2, none⟩)) :: L) F (by kernel_rfl) fun a F => ?_
       refine l_do F rfl rfl (op_indexArr _ 26 _ _ (some ⟨b55, 0, none⟩) (2) 2 (1 - si) 1 .i64 F rfl (by kernel_rfl) (by kernel_rfl) (by kernel_rfl) (by kernel_rfl) (by omega) rfl (fun a F => ?_))
       refine l_do F rfl rfl (op_load _ _ (some ⟨b55, 0, none⟩) (2 + (1 - si) * 1) (.int .u64 (ei.can (1 - si : Nat))) F rfl (by kernel_rfl) (by kernel_rfl) (cell_off (cBox S 3 rfl (edC_can ei (m := 1 - si) (by omega))) (by omega)) (fun a F => ?_))
       refine l_pure 1 (fun L => (74, .int .u64 am) :: L) F (by kernel_rfl) fun a F => ?_
       by_cases ht56 : (ei.can (1 - si : Nat) : Int) < (am : Int)
       ·
        skip
        obtain ⟨rfl, rfl⟩ := Prod.mk.inj (hq.symm.trans (cyc_room1 hcy ht56))
        refine l_do F rfl rfl (op_pure F (v0 := .bool (decide ((ei.can (1 - si : Nat) : Int) < (am : Int)))) (v := .bool true) (by kernel_rfl) (lssT ht56) fun a F => ?_)
        refine l_then ?_
        refine c_t F rfl ?_
        refine s_reg ?_
        refine l_pure 1 (fun L => (76, .agg #[.slice none 0 0, .slice none 0 0, .slice none 0 0, .int .u64 0]) :: L) F (by kernel_rfl) fun a F => ?_
        refine l_do F rfl rfl (op_storeB S 2 _ _ _ b2 0 (.agg #[.slice none 0 0, .slice none 0 0, .slice none 0 0, .int .u64 0]) F rfl rfl (by kernel_rfl) (by kernel_rfl) (by kernel_rfl) (by kernel_rfl) (by kernel_rfl) fun z S a F => ?_)
        refine l_pure 1 (fun L => (11, .int .i64 28) :: L) F (by kernel_rfl) fun a F => ?_
        refine l_then ?_
        refine wp_ret ?_
        refine then_r (?_)
        exact fin F [.cell 10 92, .tmp 11] [.agg #[.slice none 0 0, .slice none 0 0, .slice none 0 0, .int .u64 0], .int .i64 28] rfl ⟨⟨_, by kernel_rfl, resK S 2 (cs := [.slice none 0 0, .slice none 0 0, .slice none 0 0, .int .u64 0]) rfl (by kernel_rfl) (by kernel_rfl) (by simp)⟩, by kernel_rfl, trivial⟩ (.tuple #[.agg #[.slice none 0 0, .slice none 0 0, .slice none 0 0, .int .u64 0], .int .i64 28]) rfl ⟨none, 0, none, 0, none, 0, by rw [cFee_bad (by decide)]; rfl, (((S.nilRow 3 1).nilRow 3 1).nilRow 26 1).pick [0, 4, 5, 6] (by decide)⟩
       ·
        skip
        have hroom := ht56
        refine l_do F rfl rfl (op_pure F (v0 := .bool (decide ((ei.can (1 - si : Nat) : Int) < (am : Int)))) (v := .bool false) (by kernel_rfl) (lssF ht56) fun a F => ?_)
        refine l_then ?_
        refine c_f F rfl ?_
        refine wp_skip ?_
        refine then_n ?_
        refine s_reg ?_
        refine l_pure 1 (fun L => (78, .int .i64 (si : Nat)) :: L) F (by kernel_rfl) fun a F => ?_
        refine l_do F rfl rfl (op_pure F (v0 := .int .i64 (IntKind.wrap .i64 (1 - (si : Nat)))) (v := .int .i64 (1 - si : Nat)) (by kernel_rfl) (wrn_i64 (by omega) (by omega) (by omega)) fun a F => ?_)
        refine l_pure 1 (fun L => (80, .pointer (some ⟨b55, 4, none⟩)) :: L) F (by kernel_rfl) fun a F => ?_
        refine l_do F rfl rfl (op_indexArr _ 59 _ _ (some ⟨b55, 0, none⟩) (4) 2 (1 - si) 2 .i64 F rfl (by kernel_rfl) (by kernel_rfl) (by kernel_rfl) (by kernel_rfl) (by omega) rfl (fun a F => ?_))
        refine l_do F rfl rfl (op_loadK _ _ (some ⟨b55, 0, none⟩) (4 + (1 - si) * 2) [.int .u64 (ei.base (1 - si : Nat)), .int .u64 (ei.rate (1 - si : Nat))] F rfl (by kernel_rfl) (by kernel_rfl) (by kernel_rfl) (by simp) (two_cells (cell_off (cBox S 3 rfl (edC_base ei (m := 1 - si) (by omega))) (by omega)) (cell_off (cBox S 3 rfl (edC_rate ei (m := 1 - si) (by omega))) (by omega))) (fun a F => ?_))
        refine l_pure 1 (fun L => (83, .int .u64 am) :: L) F (by kernel_rfl) fun a F => ?_
        refine l_do F rfl rfl (op_fn F (by kernel_rfl) (over_any (ei.base (1 - si : Nat)) (ei.rate (1 - si : Nat)) am (hoki.base _) (hoki.rate _) hua _) ?_)
        rintro e z ⟨rfl, hb⟩
        have S := S.grow hb
        refine ⟨_, rfl, ?_⟩
        intro a F
        refine l_pure 5 (fun L => (15, .int .i64 ((overP (ei.base (1 - si : Nat)) (ei.rate (1 - si : Nat)) am).2)) :: (20, .int .u64 ((overP (ei.base (1 - si : Nat)) (ei.rate (1 - si : Nat)) am).1)) :: (86, .int .i64 ((overP (ei.base (1 - si : Nat)) (ei.rate (1 - si : Nat)) am).2)) :: (85, .int .u64 ((overP (ei.base (1 - si : Nat)) (ei.rate (1 - si : Nat)) am).1)) :: (77, .tuple #[.int .u64 ((overP (ei.base (1 - si : Nat)) (ei.rate (1 - si : Nat)) am).1), .int .i64 ((overP (ei.base (1 - si : Nat)) (ei.rate (1 - si : Nat)) am).2)]) :: L) F (by kernel_rfl) fun a F => ?_
        refine l_then ?_
        refine wp_seq ?_
        refine s_reg ?_
        refine l_pure 1 (fun L => (87, .int .i64 ((overP (ei.base (1 - si : Nat)) (ei.rate (1 - si : Nat)) am).2)) :: L) F (by kernel_rfl) fun a F => ?_
        by_cases ht57 : ((overP (ei.base (1 - si : Nat)) (ei.rate (1 - si : Nat)) am).2 : Int) = (0 : Int)
        ·
         skip
         have hfee := ht57
         have hfit := over_fit hua (hoki.base _) (hoki.rate _) hfee
         refine l_do F rfl rfl (op_pure F (v0 := .bool (((overP (ei.base (1 - si : Nat)) (ei.rate (1 - si : Nat)) am).2 : Int) != (0 : Int))) (v := .bool false) (by kernel_rfl) (neqF ht57) fun a F => ?_)
         refine l_then ?_
         refine c_f F rfl ?_
         refine wp_skip ?_
         refine then_n ?_
         exact hcut14 _ _ ⟨ko, ki, eo, ei, so, si, eo.endp (1 - so : Nat), ei.endp (1 - si : Nat), (overP (ei.base (1 - si : Nat)) (ei.rate (1 - si : Nat)) am).1, rfl, rfl, hcy, hroom, (by have h9 : (overP (ei.base (1 - si : Nat)) (ei.rate (1 - si : Nat)) am) = ((overP (ei.base (1 - si : Nat)) (ei.rate (1 - si : Nat)) am).1, (overP (ei.base (1 - si : Nat)) (ei.rate (1 - si : Nat)) am).2) := rfl; rw [hfee] at h9; exact h9), rfl, rfl, hfit.1, hfit.2, F.sub ⟨by kernel_rfl, by kernel_rfl, by kernel_rfl, by kernel_rfl, by kernel_rfl, by kernel_rfl, by kernel_rfl, by kernel_rfl, by kernel_rfl, by kernel_rfl, trivial⟩, (S.pick [0, 1, 2] (by decide))⟩
        ·
         skip
         obtain ⟨rfl, rfl⟩ := Prod.mk.inj (hq.symm.trans (cyc_fee hcy hroom ht57))
         refine l_do F rfl rfl (op_pure F (v0 := .bool (((overP (ei.base (1 - si : Nat)) (ei.rate (1 - si : Nat)) am).2 : Int) != (0 : Int))) (v := .bool true) (by kernel_rfl) (neqT ht57) fun a F => ?_)
         refine l_then ?_
         refine c_t F rfl ?_
         refine s_reg ?_
         refine l_pure 2 (fun L => (90, .int .i64 ((overP (ei.base (1 - si : Nat)) (ei.rate (1 - si : Nat)) am).2)) :: (89, .agg #[.slice none 0 0, .slice none 0 0, .slice none 0 0, .int .u64 0]) :: L) F (by kernel_rfl) fun a F => ?_
         refine l_do F rfl rfl (op_storeB S 2 _ _ _ b2 0 (.agg #[.slice none 0 0, .slice none 0 0, .slice none 0 0, .int .u64 0]) F rfl rfl (by kernel_rfl) (by kernel_rfl) (by kernel_rfl) (by kernel_rfl) (by kernel_rfl) fun z S a F => ?_)
         have S : Sat w z [rest w (· < w.heap.size), box b1 32 [.slice As x.spots.length cs, .slice Ae x.edges.length ce], box b2 92 [.slice none 0 0, .slice none 0 0, .slice none 0 0, .int .u64 0], box b55 62 [.int .i64 ei.a, .int .i64 ei.b, .int .u64 ei.c0, .int .u64 ei.c1, .int .u64 ei.b0, .int .u64 ei.r0, .int .u64 ei.b1, .int .u64 ei.r1]] := S
         refine l_pure 1 (fun L => (11, .int .i64 ((overP (ei.base (1 - si : Nat)) (ei.rate (1 - si : Nat)) am).2)) :: L) F (by kernel_rfl) fun a F => ?_
         refine l_then ?_
         refine wp_ret ?_
         refine then_r (?_)
         exact fin F [.cell 10 92, .tmp 11] [.agg #[.slice none 0 0, .slice none 0 0, .slice none 0 0, .int .u64 0], .int .i64 ((overP (ei.base (1 - si : Nat)) (ei.rate (1 - si : Nat)) am).2)] rfl ⟨⟨_, by kernel_rfl, resK S 2 (cs := [.slice none 0 0, .slice none 0 0, .slice none 0 0, .int .u64 0]) rfl (by kernel_rfl) (by kernel_rfl) (by simp)⟩, by kernel_rfl, trivial⟩ (.tuple #[.agg #[.slice none 0 0, .slice none 0 0, .slice none 0 0, .int .u64 0], .int .i64 ((overP (ei.base (1 - si : Nat)) (ei.rate (1 - si : Nat)) am).2)]) rfl ⟨none, 0, none, 0, none, 0, by rw [cFee_bad (by assumption)]; rfl, (((S.nilRow 3 1).nilRow 3 1).nilRow 26 1).pick [0, 4, 5, 6] (by decide)⟩
 ·
  skip
  have hc := ht3
  obtain ⟨rfl, rfl⟩ := Prod.mk.inj (hq.symm.trans (cyc_bad hc))
  refine l_do F rfl rfl (op_pure F (v0 := .bool ((chkP x : Int) != (0 : Int))) (v := .bool true) (by kernel_rfl) (neqT ht3) fun a F => ?_)
  refine l_then ?_
  refine c_t F rfl ?_
  refine s_reg ?_
  refine l_pure 2 (fun L => (31, .int .i64 (chkP x)) :: (30, .agg #[.slice none 0 0, .slice none 0 0, .slice none 0 0, .int .u64 0]) :: L) F (by kernel_rfl) fun a F => ?_
  refine l_do F rfl rfl (op_storeB S 2 _ _ _ b2 0 (.agg #[.slice none 0 0, .slice none 0 0, .slice none 0 0, .int .u64 0]) F rfl rfl (by kernel_rfl) (by kernel_rfl) (by kernel_rfl) (by kernel_rfl) (by kernel_rfl) fun z S a F => ?_)
  refine l_pure 1 (fun L => (11, .int .i64 (chkP x)) :: L) F (by kernel_rfl) fun a F => ?_
  refine l_then ?_
  refine wp_ret ?_
  refine then_r (?_)
  exact fin F [.cell 10 92, .tmp 11] [.agg #[.slice none 0 0, .slice none 0 0, .slice none 0 0, .int .u64 0], .int .i64 (chkP x)] rfl ⟨⟨_, by kernel_rfl, resK S 2 (cs := [.slice none 0 0, .slice none 0 0, .slice none 0 0, .int .u64 0]) rfl (by kernel_rfl) (by kernel_rfl) (by simp)⟩, by kernel_rfl, trivial⟩ (.tuple #[.agg #[.slice none 0 0, .slice none 0 0, .slice none 0 0, .int .u64 0], .int .i64 (chkP x)]) rfl ⟨none, 0, none, 0, none, 0, by rw [cFee_bad (by assumption)]; rfl, (((S.nilRow 3 1).nilRow 3 1).nilRow 26 1).pick [0, 3, 4, 5] (by decide)⟩
open Go Go.RowKit

def x28 : Wb := ⟨[(0, 0), (0, 0), (0, 0)], [⟨0, 1, 9, 0, 0, 0, 0, 0⟩, ⟨1, 2, 9, 0, 0, 0, 0, 0⟩, ⟨2, 0, 9, 0, 0, 0, 0, 0⟩]⟩
theorem x28_ok : x28.Ok := by
  refine ⟨?_, ?_⟩
  · intro e he
    simp [x28] at he
    rcases he with rfl | rfl | rfl <;> exact ⟨⟨by decide, by decide⟩, ⟨by decide, by decide⟩, ⟨by decide, by decide⟩, ⟨by decide, by decide⟩, ⟨by decide, by decide⟩, ⟨by decide, by decide⟩, ⟨by decide, by decide⟩, ⟨by decide, by decide⟩⟩
  · intro s hs
    simp [x28] at hs
    subst hs; exact ⟨⟨by decide, by decide⟩, ⟨by decide, by decide⟩⟩
theorem cyc28 : cycP x28 0 0 2 5 = (⟨[0, 1, 2, 0], [0, 1, 2], [5, 5, 5]⟩, 0) := by kernel_rfl
set_option maxRecDepth 100000 in
set_option maxHeartbeats 4000000 in
theorem awake28_any (w : World) : Calls Try.prog 46 #[] w fun e w' => e = .returned (.bool true) ∧ Below w.heap.size w w' := by
 refine enter 41 Try.func46 rfl rfl rfl fun a F => ?_
 have S := Sat.pushRest w
 refine s_reg ?_
 refine l_pure 1 (fun L => (0, .bool false) :: L) F (by kernel_rfl) fun a F => ?_
 refine l_then ?_
 refine s_reg ?_
 refine l_do F rfl rfl (op_make S _ 106 _ _ .i64 .i64 (.agg #[.int .i64 0, .int .i64 0]) 2 16 3 ((0, 0) : Int × Int) spC F spC_len rfl (by kernel_rfl) (by kernel_rfl) rfl (by kernel_rfl) (by kernel_rfl) (by kernel_rfl) (by omega) (by omega) fun b1 z S a F => ?_)
 refine l_pure 9 (fun L => (13, .agg #[.int .i64 2, .int .i64 0, .int .u64 9, .int .u64 0, .int .u64 0, .int .u64 0, .int .u64 0, .int .u64 0]) :: (12, .agg #[.int .u64 9, .int .u64 0]) :: (11, .agg #[.int .i64 2, .int .i64 0]) :: (10, .agg #[.int .i64 1, .int .i64 2, .int .u64 9, .int .u64 0, .int .u64 0, .int .u64 0, .int .u64 0, .int .u64 0]) :: (9, .agg #[.int .u64 9, .int .u64 0]) :: (8, .agg #[.int .i64 1, .int .i64 2]) :: (7, .agg #[.int .i64 0, .int .i64 1, .int .u64 9, .int .u64 0, .int .u64 0, .int .u64 0, .int .u64 0, .int .u64 0]) :: (6, .agg #[.int .u64 9, .int .u64 0]) :: (5, .agg #[.int .i64 0, .int .i64 1]) :: L) F (by kernel_rfl) fun a F => ?_
 refine l_do F rfl rfl (op_buildSlice S _ 3 _ 104 8 edC ([(⟨0, 1, 9, 0, 0, 0, 0, 0⟩ : Edg), (⟨1, 2, 9, 0, 0, 0, 0, 0⟩ : Edg), (⟨2, 0, 9, 0, 0, 0, 0, 0⟩ : Edg)] : List Edg) F rfl (by kernel_rfl) (by kernel_rfl) (by kernel_rfl) (by unfold maxLen; omega) fun b2 z S a F => ?_)
 refine l_pure 1 (fun L => (15, .agg #[.slice (some ⟨b1, 0, none⟩) 3 3, .slice (some ⟨b2, 0, none⟩) 3 3]) :: L) F (by kernel_rfl) fun a F => ?_
 refine l_do F rfl rfl (op_alloc S _ (.agg #[.slice none 0 0, .slice none 0 0]) rfl (by kernel_rfl) fun b3 z S a F => ?_)
 refine l_do F rfl rfl (op_storeB S 3 _ _ _ b3 0 (.agg #[.slice (some ⟨b1, 0, none⟩) 3 3, .slice (some ⟨b2, 0, none⟩) 3 3]) F rfl rfl (by kernel_rfl) (by kernel_rfl) (by kernel_rfl) (by kernel_rfl) (by kernel_rfl) fun z S a F => ?_)
 refine l_then ?_
 refine s_reg ?_
 refine l_do F rfl rfl (op_loadK _ _ (some ⟨b3, 0, none⟩) 0 [.slice (some ⟨b1, 0, none⟩) 3 3, .slice (some ⟨b2, 0, none⟩) 3 3] F rfl (by kernel_rfl) (by kernel_rfl) (by kernel_rfl) (by simp) (cBoxK S 3 rfl 0 (by kernel_rfl)) (fun a F => ?_))
 have S : Sat w z [rest w (· < w.heap.size), row 106 2 (.slice (some ⟨b1, 0, none⟩) x28.spots.length 3) x28.spots.length (x28.spots.flatMap spC), row 104 8 (.slice (some ⟨b2, 0, none⟩) x28.edges.length 3) x28.edges.length (x28.edges.flatMap edC), box b3 25 [.slice (some ⟨b1, 0, none⟩) 3 3, .slice (some ⟨b2, 0, none⟩) 3 3]] := S
 refine l_do F rfl rfl (op_fn F (by kernel_rfl) (to_any _ (some ⟨b1, 0, none⟩) 3 (some ⟨b2, 0, none⟩) 3 x28 (WebAt.ofNew (x := x28) (w := w) S (i := 1) (j := 2) rfl rfl ⟨by decide, by decide⟩) x28_ok ⟨by decide, by decide⟩) ?_)
 rintro e z ⟨A4, c5, A6, c7, rfl, g⟩
 have S := S.pushThings g
 refine ⟨_, rfl, ?_⟩
 intro a F
 refine l_do F rfl rfl (op_fn F (by kernel_rfl) (pcycle_at _ A4 c5 A6 c7 x28 (WebAt.ofNew (x := x28) (w := w) S (i := 4) (j := 5) rfl rfl ⟨by decide, by decide⟩) x28_ok 0 0 2 5 ⟨by decide, by decide⟩ (by decide) (by decide) cyc28) ?_)
 rintro e z ⟨P1, e1, P2, e2, P3, e3, rfl, g⟩
 have S := S.pushThings g
 refine ⟨_, rfl, ?_⟩
 intro a F
 refine l_pure 3 (fun L => (21, .int .i64 0) :: (20, .agg #[.slice P1 (((⟨[0, 1, 2, 0], [0, 1, 2], [5, 5, 5]⟩ : Rt).nodes).length) e1, .slice P2 (((⟨[0, 1, 2, 0], [0, 1, 2], [5, 5, 5]⟩ : Rt).edges).length) e2, .slice P3 (((⟨[0, 1, 2, 0], [0, 1, 2], [5, 5, 5]⟩ : Rt).amts).length) e3, .int .u64 0]) :: (16, .tuple #[.agg #[.slice P1 (((⟨[0, 1, 2, 0], [0, 1, 2], [5, 5, 5]⟩ : Rt).nodes).length) e1, .slice P2 (((⟨[0, 1, 2, 0], [0, 1, 2], [5, 5, 5]⟩ : Rt).edges).length) e2, .slice P3 (((⟨[0, 1, 2, 0], [0, 1, 2], [5, 5, 5]⟩ : Rt).amts).length) e3, .int .u64 0], .int .i64 0]) :: L) F (by kernel_rfl) fun a F => ?_
 refine l_do F rfl rfl (op_alloc S _ (.agg #[.slice none 0 0, .slice none 0 0, .slice none 0 0, .int .u64 0]) rfl (by kernel_rfl) fun b8 z S a F => ?_)
 refine l_do F rfl rfl (op_storeB S 9 _ _ _ b8 0 (.agg #[.slice P1 (((⟨[0, 1, 2, 0], [0, 1, 2], [5, 5, 5]⟩ : Rt).nodes).length) e1, .slice P2 (((⟨[0, 1, 2, 0], [0, 1, 2], [5, 5, 5]⟩ : Rt).edges).length) e2, .slice P3 (((⟨[0, 1, 2, 0], [0, 1, 2], [5, 5, 5]⟩ : Rt).amts).length) e3, .int .u64 0]) F rfl rfl (by kernel_rfl) (by kernel_rfl) (by kernel_rfl) (by kernel_rfl) (by kernel_rfl) fun z S a F => ?_)
 refine l_pure 1 (fun L => (3, .int .i64 0) :: L) F (by kernel_rfl) fun a F => ?_
 refine l_then ?_
 refine s_reg ?_
 refine l_pure 4 (fun L => (25, .pointer (some ⟨b8, 1, none⟩)) :: (24, .bool true) :: (23, .bool true) :: (22, .int .i64 0) :: L) F (by kernel_rfl) fun a F => ?_
 refine l_do F rfl rfl (op_load _ _ (some ⟨b8, 0, none⟩) 1 (.slice P2 (((⟨[0, 1, 2, 0], [0, 1, 2], [5, 5, 5]⟩ : Rt).edges).length) e2) F rfl (by kernel_rfl) (by kernel_rfl) (cBox S 9 rfl (j := 1) rfl) (fun a F => ?_))
 refine l_pure 1 (fun L => (27, .int .i64 (((⟨[0, 1, 2, 0], [0, 1, 2], [5, 5, 5]⟩ : Rt).edges).length : Nat)) :: L) F (by kernel_rfl) fun a F => ?_
 refine l_do F rfl rfl (op_pure F (v0 := .bool (((((⟨[0, 1, 2, 0], [0, 1, 2], [5, 5, 5]⟩ : Rt).edges).length : Nat) : Int) == (3 : Int))) (v := .bool true) (by kernel_rfl) (eqlT (by rfl)) fun a F => ?_)
 refine l_pure 3 (fun L => (31, .pointer (some ⟨b8, 3, none⟩)) :: (30, .bool true) :: (29, .bool true) :: L) F (by kernel_rfl) fun a F => ?_
 refine l_do F rfl rfl (op_load _ _ (some ⟨b8, 0, none⟩) 3 (.int .u64 0) F rfl (by kernel_rfl) (by kernel_rfl) (cBox S 9 rfl (j := 3) rfl) (fun a F => ?_))
 refine l_pure 4 (fun L => (36, .pointer (some ⟨b8, 0, none⟩)) :: (35, .bool true) :: (34, .bool true) :: (33, .bool true) :: L) F (by kernel_rfl) fun a F => ?_
 refine l_do F rfl rfl (op_load _ _ (some ⟨b8, 0, none⟩) 0 (.slice P1 (((⟨[0, 1, 2, 0], [0, 1, 2], [5, 5, 5]⟩ : Rt).nodes).length) e1) F rfl (by kernel_rfl) (by kernel_rfl) (cBox S 9 rfl (j := 0) rfl) (fun a F => ?_))
 refine l_pure 1 (fun L => (38, .int .i64 (((⟨[0, 1, 2, 0], [0, 1, 2], [5, 5, 5]⟩ : Rt).nodes).length : Nat)) :: L) F (by kernel_rfl) fun a F => ?_
 refine l_do F rfl rfl (op_pure F (v0 := .bool (((((⟨[0, 1, 2, 0], [0, 1, 2], [5, 5, 5]⟩ : Rt).nodes).length : Nat) : Int) == (4 : Int))) (v := .bool true) (by kernel_rfl) (eqlT (by rfl)) fun a F => ?_)
 refine l_pure 2 (fun L => (0, .bool true) :: (40, .bool true) :: L) F (by kernel_rfl) fun a F => ?_
 refine l_then ?_
 refine wp_ret ?_
 exact fin F [.tmp 0] [.bool true] rfl ⟨by kernel_rfl, trivial⟩ (.bool true) rfl ⟨rfl, S.below (i := 0) rfl⟩
end Go.Proofs.Ytcfpbemoocegfaa
