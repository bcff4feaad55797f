/- Walk over the program's logbook: Compact. -/
import Derived.Test.YtidcdfilfccigaaLgC17
namespace Go.Proofs.Ytidcdfilfccigaa
set_option linter.unusedVariables false
set_option linter.unusedSimpArgs false
set_option linter.unnecessarySimpa false
open Go Go.RowKit

/-- What Compact has written behind jj entries. -/
def prP (lif : Nat) (LL : List NV) (jj : Nat) : Bs := recP 1 [] (be4 (lif + 1)) ++ entsP (LL.take jj)
theorem prP_zero (lif : Nat) (LL : List NV) : recP 1 [] (be4 (lif + 1)) = prP lif LL 0 := by simp [prP, entsP]
theorem prP_succ {lif : Nat} {LL : List NV} {jj : Nat} {y : NV} (h : LL[jj]? = some y) : prP lif LL jj ++ recP 2 y.1 y.2 = prP lif LL (jj + 1) := by
  have e : LL.take (jj + 1) = LL.take jj ++ [y] := by rw [List.take_add_one, h]; rfl
  unfold prP entsP
  rw [e, List.flatMap_append, List.append_assoc]
  simp
theorem prP_end {lif : Nat} {LL : List NV} {jj : Nat} (h : jj = LL.length) : prP lif LL jj ++ recP 4 [] [] = allP (lif + 1) LL := by
  unfold prP allP
  rw [h, List.take_length]
theorem entsP_len {LL : List NV} (h1 : ∀ x ∈ LL, x.1.length ≤ 255) (h2 : ∀ x ∈ LL, x.2.length ≤ 262144) : (entsP LL).length ≤ 262406 * LL.length := by
  unfold entsP
  induction LL with
  | nil => simp
  | cons x LL ih =>
    have h3 := h1 x (List.mem_cons_self ..)
    have h4 := h2 x (List.mem_cons_self ..)
    have h5 := ih (fun y hy => h1 y (List.mem_cons_of_mem _ hy)) (fun y hy => h2 y (List.mem_cons_of_mem _ hy))
    rw [List.flatMap_cons, List.length_append, recP_len, List.length_cons]
    omega
theorem prP_len {lif : Nat} {LL : List NV} (h1 : ∀ x ∈ LL, x.1.length ≤ 255) (h2 : ∀ x ∈ LL, x.2.length ≤ 262144) (jj : Nat) : (prP lif LL jj).length ≤ 11 + 262406 * LL.length := by
  unfold prP
  rw [List.length_append, recP_len, be4_len]
  have h := entsP_len (LL := LL.take jj) (fun x hx => h1 x (List.mem_of_mem_take hx)) (fun x hx => h2 x (List.mem_of_mem_take hx))
  have h3 : (LL.take jj).length ≤ LL.length := by rw [List.length_take]; omega
  have h4 : 262406 * (LL.take jj).length ≤ 262406 * LL.length := Nat.mul_le_mul_left _ h3
  simp only [List.length_nil]
  omega
theorem allP_len {lif : Nat} {LL : List NV} (h1 : ∀ x ∈ LL, x.1.length ≤ 255) (h2 : ∀ x ∈ LL, x.2.length ≤ 262144) : (allP lif LL).length ≤ 18 + 262406 * LL.length := by
  unfold allP
  rw [List.length_append, List.length_append, recP_len, recP_len, be4_len]
  have h := entsP_len h1 h2
  simp only [List.length_nil]
  omega
def nmsP (LL : List NV) : List Bs := LL.map (·.1)
theorem nmsP_len (LL : List NV) : (nmsP LL).length = LL.length := List.length_map _
theorem wrn_u32 {n m : Int} (e : n = m) (h0 : 0 ≤ m) (h1 : m < 4294967296) : Value.int .u32 (IntKind.wrap .u32 n) = .int .u32 m := by rw [e]; exact wr_u32 h0 h1
theorem names_at {LL : List NV} {jj : Nat} {y : NV} (h : LL[jj]? = some y) : (nmsP LL)[jj]? = some y.1 := by unfold nmsP; rw [List.getElem?_map, h]; rfl
def vC (x : Value) : List Value := [x]
theorem vC_len (x : Value) : (vC x).length = 1 := rfl
set_option maxRecDepth 100000 in
set_option maxHeartbeats 4000000 in
theorem lcompF_any (w : World) (G : Nat → Prop) (b7 bp gg : Nat) (sd0 : Sd) (N : Int) (in0 : sd0.In N) (hN : N ≤ 1000010) (Ap : Option Addr) (cp : Nat) (X : Bs) (hl : X.length ≤ 140737488355328) (hS : Sat w w [box b7 23 [pt gg 0], box bp 36 [.slice Ap X.length cp], row 5 1 (.slice Ap X.length cp) X.length (X.flatMap yC), sdA gg sd0, rest w G]) : Calls Try.prog 42 #[pt b7 0, pt bp 0] w fun e w' => e = .returned (.int .i64 (sd0.appE X.length)) ∧ Sat w w' [box b7 23 [pt gg 0], box bp 36 [.slice Ap X.length cp], row 5 1 (.slice Ap X.length cp) X.length (X.flatMap yC), sdA gg (sd0.app X), rest w G] := by
 refine enter 6 Try.func42 rfl rfl rfl fun a F => ?_
 have S : Sat w w [rest w G, box b7 23 [pt gg 0], box bp 36 [.slice Ap X.length cp], row 5 1 (.slice Ap X.length cp) X.length (X.flatMap yC), sdA gg sd0] := hS.pick [4, 0, 1, 2, 3] (by decide)
 refine s_reg ?_
 refine l_pk 1 (fun L => (2, .int .i64 0) :: L) F fun a F => ?_
 refine l_then ?_
 refine s_reg ?_
 refine l_do F rfl rfl (op_ldk (some ⟨b7, 0, none⟩) 0 (pt gg 0) F rfl (cBox S 1 rfl (j := 0) rfl) (fun a F => ?_))
 refine l_do F rfl rfl (op_ldk (some ⟨bp, 0, none⟩) 0 (.slice Ap X.length cp) F rfl (cBox S 2 rfl (j := 0) rfl) (fun a F => ?_))
 refine l_do F rfl rfl (op_fn F (by kernel_rfl) (sapp_at S (i := 4) rfl (in0) (by omega) X Ap cp (Recs.ofRow (S.rowOf (i := 3) rfl) (by omega)) (away_row (j := 3) rfl (by decide))) ?_)
 rintro e z ⟨rfl, S⟩
 refine ⟨_, rfl, ?_⟩
 intro a F
 refine l_pk 1 (fun L => (2, .int .i64 (sd0.appE X.length)) :: L) F fun a F => ?_
 refine l_then ?_
 refine wp_ret ?_
 exact fin F [.tmp 2] [.int .i64 (sd0.appE X.length)] rfl ⟨by kernel_rfl, trivial⟩ (.int .i64 (sd0.appE X.length)) rfl ⟨rfl, S.pick [1, 2, 3, 4, 0] (by decide)⟩
set_option maxRecDepth 100000 in
set_option maxHeartbeats 4000000 in
theorem lcomp0_any (w : World) (G : Nat → Prop) (b g0 g1 : Nat) (lif : Nat) (LL : List NV) (ded : Int) (sd0 sd1 : Sd) (N : Int) (in0 : sd0.In N) (in1 : sd1.In N) (hN : N ≤ 1000000) (hlif : lif < 4294967296) (hri : Rises LL) (hnm : ∀ x ∈ LL, x.1.length ≤ 255) (hvl : ∀ x ∈ LL, x.2.length ≤ 262144) (hct : LL.length ≤ 900000) (hS : Sat w w [lgA b g0 g1 ⟨0, lif, LL, ded⟩, sdA g0 sd0, sdA g1 sd1, rest w G]) : Calls Try.prog 13 #[pt b 0] w fun e w' => e = .returned (.int .i64 (compT ⟨⟨0, lif, LL, ded⟩, sd0, sd1⟩).1) ∧ Sat w w' [lgA b g0 g1 (compT ⟨⟨0, lif, LL, ded⟩, sd0, sd1⟩).2.lb, sdA g0 (compT ⟨⟨0, lif, LL, ded⟩, sd0, sd1⟩).2.s0, sdA g1 (compT ⟨⟨0, lif, LL, ded⟩, sd0, sd1⟩).2.s1, rest w G] := by
 refine enter 100 Try.func13 rfl rfl rfl fun a F => ?_
 obtain ⟨r, ck, es, rs, hok, S⟩ := lg_open hS
 have S : Sat w w [rest w G, sdA g0 sd0, sdA g1 sd1, box b 70 [pt g0 0, pt g1 0, .int .i64 0, .int .u32 (lif : Nat), .map (some r), .int .i64 ded], smapA r (es.map LEnt.e) ck, bag rs] := S
 dsimp only at hok
 have hb5 := be4_len (lif + 1)
 have hb4 : (([] : List UInt8) ++ be4 (lif + 1)).length = 4 := rfl
 have hnm1 := prP_len (lif := lif) hnm hvl
 have hal := allP_len (lif := lif + 1) hnm hvl
 refine s_reg ?_
 refine l_pk 1 (fun L => (2, .int .i64 0) :: L) F fun a F => ?_
 refine l_then ?_
 refine wp_seq ?_
 refine s_reg ?_
 refine l_pk 1 (fun L => (11, pt b 0) :: L) F fun a F => ?_
 obtain ⟨G9, g9, hin9, hlt9, k9⟩ := S.frameB [3] (by decide) rfl
 refine l_do F rfl rfl (op_fn F (by kernel_rfl) (lup_any _ G9 b (pt g0 0) (pt g1 0) (.int .i64 0) (.int .u32 (lif : Nat)) (.map (some r)) ded g9) ?_)
 rintro e z9 ⟨rfl, g⟩
 have S : Sat w z9 [rest w G, sdA g0 sd0, sdA g1 sd1, box b 70 [pt g0 0, pt g1 0, .int .i64 0, .int .u32 (lif : Nat), .map (some r), .int .i64 ded], smapA r (es.map LEnt.e) ck, bag rs] := k9 z9 [box b 70 [pt g0 0, pt g1 0, .int .i64 0, .int .u32 (lif : Nat), .map (some r), .int .i64 ded]] rfl g
 clear g g9 k9 hin9 hlt9
 refine ⟨_, rfl, ?_⟩
 intro a F
 refine l_pk 1 (fun L => (3, .int .i64 ded) :: L) F fun a F => ?_
 refine l_then ?_
 refine s_reg ?_
 refine l_pk 1 (fun L => (13, .int .i64 ded) :: L) F fun a F => ?_
 by_cases ht1 : (ded : Int) = (0 : Int)
 ·
  refine l_do F rfl rfl (op_pk F (v0 := .bool ((ded : Int) != (0 : Int))) (v := .bool false) (neqF ht1) fun a F => ?_)
  refine l_then ?_
  refine c_f F rfl ?_
  refine wp_skip ?_
  refine then_n ?_
  refine wp_seq ?_
  refine s_reg ?_
  refine l_pk 3 (fun L => (18, pt b 3) :: (17, pt b 0) :: (16, pt b 0) :: L) F fun a F => ?_
  refine l_do F rfl rfl (op_ldk (some ⟨b, 0, none⟩) 3 (.int .u32 (lif : Nat)) F rfl (cBox S 3 rfl (j := 3) rfl) (fun a F => ?_))
  by_cases ht2 : ((lif : Nat) : Int) = (4294967295 : Int)
  ·
   refine l_do F rfl rfl (op_pk F (v0 := .bool (((lif : Nat) : Int) == (4294967295 : Int))) (v := .bool true) (eqlT ht2) fun a F => ?_)
   refine l_then ?_
   refine c_t F rfl ?_
   refine s_reg ?_
   refine l_pk 1 (fun L => (2, .int .i64 8) :: L) F fun a F => ?_
   refine l_then ?_
   refine wp_ret ?_
   refine then_r (?_)
   exact fin F [.tmp 2] [.int .i64 8] rfl ⟨by kernel_rfl, trivial⟩ (.int .i64 8) rfl ⟨by rw [comp_last ht1 (by omega)], by rw [comp_last ht1 (by omega)]; exact (lg_shut hok (S.pick [0, 1, 2, 3, 4, 5] (by decide)))⟩
  refine l_do F rfl rfl (op_pk F (v0 := .bool (((lif : Nat) : Int) == (4294967295 : Int))) (v := .bool false) (eqlF ht2) fun a F => ?_)
  refine l_then ?_
  refine c_f F rfl ?_
  refine wp_skip ?_
  refine then_n ?_
  refine s_reg ?_
  refine l_do F rfl rfl (op_buildSlice S _ 0 _ 5 1 yC ([] : List UInt8) F rfl (by kernel_rfl) (by kernel_rfl) (by kernel_rfl) (by unfold maxLen; omega) fun b3 z S a F => ?_)
  refine l_pk 3 (fun L => (24, pt b 3) :: (23, pt b 0) :: (22, pt b 0) :: L) F fun a F => ?_
  refine l_do F rfl rfl (op_ldk (some ⟨b, 0, none⟩) 3 (.int .u32 (lif : Nat)) F rfl (cBox S 3 rfl (j := 3) rfl) (fun a F => ?_))
  refine l_do F rfl rfl (op_pk F (v0 := .int .u32 (IntKind.wrap .u32 ((lif : Nat) + 1))) (v := .int .u32 (lif + 1 : Nat)) (wrn_u32 (by omega) (by omega) (by omega)) fun a F => ?_)
  refine l_do F rfl rfl (op_buildSlice S _ 1 _ 30 1 nC ([lif + 1] : List Nat) F rfl (by kernel_rfl) (by kernel_rfl) (by kernel_rfl) (by unfold maxLen; omega) fun b4 z S a F => ?_)
  obtain ⟨G9, g9, hin9, hlt9, k9⟩ := S.frameB [6, 7] (by decide) rfl
  refine l_do F rfl rfl (op_fn F (by kernel_rfl) (ofour_any _ G9 (some ⟨b3, 0, none⟩) 0 ([] : List UInt8) (by simp) (some ⟨b4, 0, none⟩) 1 (lif + 1) (by omega) g9) ?_)
  rintro e z9 ⟨An, cn, rfl, g⟩
  have S : Sat w z9 [rest w G, sdA g0 sd0, sdA g1 sd1, box b 70 [pt g0 0, pt g1 0, .int .i64 0, .int .u32 (lif : Nat), .map (some r), .int .i64 ded], smapA r (es.map LEnt.e) ck, bag rs, row 5 1 (.slice An ((([] : List UInt8) ++ be4 (lif + 1)).length) cn) ((([] : List UInt8) ++ be4 (lif + 1)).length) ((([] : List UInt8) ++ be4 (lif + 1)).flatMap yC), row 30 1 (.slice (some ⟨b4, 0, none⟩) 1 1) 1 (([lif + 1] : List Nat).flatMap nC)] := k9 z9 [row 5 1 (.slice An ((([] : List UInt8) ++ be4 (lif + 1)).length) cn) ((([] : List UInt8) ++ be4 (lif + 1)).length) ((([] : List UInt8) ++ be4 (lif + 1)).flatMap yC), row 30 1 (.slice (some ⟨b4, 0, none⟩) 1 1) 1 (([lif + 1] : List Nat).flatMap nC)] rfl g
  clear g g9 k9 hin9 hlt9
  refine ⟨_, rfl, ?_⟩
  intro a F
  refine l_do F rfl rfl (op_fn F (by kernel_rfl) (record_any _ 1 ([] : Bs) (by first | omega | (simp only [List.length_nil]; omega)) An cn (be4 (lif + 1)) (Recs.ofRow (S.rowOf (i := 6) rfl) (by omega)) (by first | omega | (simp [be4] <;> omega))) ?_)
  rintro e z ⟨Ar1, cr1, rfl, g⟩
  have S := S.pushThings g
  refine ⟨_, rfl, ?_⟩
  intro a F
  refine l_do F rfl rfl (op_alloc S _ (.slice none 0 0) rfl (by kernel_rfl) fun b5 z S a F => ?_)
  refine l_do F rfl rfl (op_storeB S 9 _ _ _ b5 0 (.slice Ar1 ((recP 1 ([] : Bs) (be4 (lif + 1))).length) cr1) F rfl rfl (by kernel_rfl) (by kernel_rfl) (by kernel_rfl) (by kernel_rfl) (by kernel_rfl) fun z S a F => ?_)
  refine l_then ?_
  refine wp_seq ?_
  refine s_reg ?_
  refine l_pk 3 (fun L => (32, pt b 4) :: (31, pt b 0) :: (30, pt b 0) :: L) F fun a F => ?_
  refine l_do F rfl rfl (op_ldk (some ⟨b, 0, none⟩) 4 (.map (some r)) F rfl (cBox S 3 rfl (j := 4) rfl) (fun a F => ?_))
  refine l_do F rfl rfl (op_fn F (by kernel_rfl) (mkeys_sat S r) ?_)
  rintro e z ⟨qk, rfl, S⟩
  refine ⟨_, rfl, ?_⟩
  intro a F
  refine l_do F rfl rfl (op_fn F (by kernel_rfl) (sorted_at S (i := 4) (j := 10) rfl rfl hok.ok (has_keys hok hri)) ?_)
  rintro e z ⟨Ak, cks, rfl, S⟩
  refine ⟨_, rfl, ?_⟩
  intro a F
  refine l_pk 2 (fun L => (37, .int .i64 0) :: (36, .int .i64 ((nmsP LL).length : Nat)) :: L) F fun a F => ?_
  refine l_then ?_
  refine wp_block ?_
  rw [prP_zero lif LL] at S
  refine wp_loop_m (fun m a z => ∃ (jj : Nat) (Ap : Option Addr) (cp : Nat), m = LL.length - jj ∧ (jj ≤ LL.length) ∧ Fr a 100 [(0, pt b 0), (4, pt b5 0), (35, .slice Ak ((nmsP LL).length) cks), (36, .int .i64 ((nmsP LL).length : Nat)), (37, .int .i64 (jj : Nat))] ∧ Sat w z [rest w G, sdA g0 sd0, sdA g1 sd1, box b 70 [pt g0 0, pt g1 0, .int .i64 0, .int .u32 (lif : Nat), .map (some r), .int .i64 ded], smapA r (es.map LEnt.e) ck, bag rs, row 5 1 (.slice An ((([] : List UInt8) ++ be4 (lif + 1)).length) cn) ((([] : List UInt8) ++ be4 (lif + 1)).length) ((([] : List UInt8) ++ be4 (lif + 1)).flatMap yC), row 30 1 (.slice (some ⟨b4, 0, none⟩) 1 1) 1 (([lif + 1] : List Nat).flatMap nC), row 5 1 (.slice Ap ((prP lif LL jj).length) cp) ((prP lif LL jj).length) ((prP lif LL jj).flatMap yC), box b5 36 [.slice Ap ((prP lif LL jj).length) cp], box qk 68 [.map (some r)], row 9 1 (.slice Ak ((nmsP LL).length) cks) ((nmsP LL).length) ((nmsP LL).flatMap sC)]) _ ⟨0, Ar1, cr1, rfl, Nat.zero_le _, F.subk, (S.pick [0, 1, 2, 3, 4, 5, 6, 7, 8, 9, 10, 11] (by decide))⟩ ?_
  rintro m a z ⟨jj, Ap, cp, hm, hf6, F, S⟩
  refine s_reg ?_
  by_cases ht7 : ((jj : Nat) : Int) < (((nmsP LL).length : Nat) : Int)
  ·
   have hlm := nmsP_len LL
   obtain ⟨y, hy⟩ : ∃ y, LL[jj]? = some y := ⟨_, List.getElem?_eq_getElem (by omega)⟩
   have hyl := recP_len 2 y.1 y.2
   have hy1 := hnm y (List.mem_of_getElem? hy)
   have hy2 := hvl y (List.mem_of_getElem? hy)
   have hpj := hnm1 jj
   obtain ⟨Av, cv, hgt, hgr⟩ := has_some hok (rises_at hri hy)
   refine l_do F rfl rfl (op_pk F (v0 := .bool (decide (((jj : Nat) : Int) < (((nmsP LL).length : Nat) : Int)))) (v := .bool true) (lssT ht7) fun a F => ?_)
   refine l_then ?_
   refine wp_seq ?_
   refine c_t F rfl ?_
   refine wp_skip ?_
   refine then_n ?_
   refine wp_seq ?_
   refine wp_block ?_
   refine s_reg ?_
   refine l_do F rfl rfl (op_index _ 9 _ _ Ak ((nmsP LL).length) cks jj 1 .i64 F rfl (by kernel_rfl) (by kernel_rfl) (by kernel_rfl) (by kernel_rfl) (get_lt (names_at hy)) (row_some S 11 rfl (m := jj) (get_lt (names_at hy))) (fun a F => ?_))
   refine l_do F rfl rfl (op_ldk Ak (jj * 1) (strV y.1) F rfl (cRec S 11 sC_len rfl 0 (names_at hy) rfl) (fun a F => ?_))
   refine l_pk 1 (fun L => (6, strV y.1) :: L) F fun a F => ?_
   refine l_then ?_
   have hn8 : Option.isSome Ak = true := (row_some S 11 rfl (m := jj) (get_lt (names_at hy)))
   have S := S.pushEmp
   refine region_gx (fun D => fun ((Ar2, cr2, A9, c10) : Option Addr × Nat × Option Addr × Nat) => [rest w G, sdA g0 sd0, sdA g1 sd1, box b 70 [pt g0 0, pt g1 0, .int .i64 0, .int .u32 (lif : Nat), .map (some r), .int .i64 ded], smapA r (es.map LEnt.e) ck, bag rs, row 5 1 (.slice An ((([] : List UInt8) ++ be4 (lif + 1)).length) cn) ((([] : List UInt8) ++ be4 (lif + 1)).length) ((([] : List UInt8) ++ be4 (lif + 1)).flatMap yC), row 30 1 (.slice (some ⟨b4, 0, none⟩) 1 1) 1 (([lif + 1] : List Nat).flatMap nC), bif D 9 then row 5 1 (.slice A9 (((prP lif LL jj) ++ (recP 2 y.1 y.2)).length) c10) (((prP lif LL jj) ++ (recP 2 y.1 y.2)).length) (((prP lif LL jj) ++ (recP 2 y.1 y.2)).flatMap yC) else row 5 1 (.slice Ap ((prP lif LL jj).length) cp) ((prP lif LL jj).length) ((prP lif LL jj).flatMap yC), bif D 10 then box b5 36 [.slice A9 (((prP lif LL jj) ++ (recP 2 y.1 y.2)).length) c10] else box b5 36 [.slice Ap ((prP lif LL jj).length) cp], box qk 68 [.map (some r)], row 9 1 (.slice Ak ((nmsP LL).length) cks) ((nmsP LL).length) ((nmsP LL).flatMap sC), bif D 8 then row 5 1 (.slice Ar2 ((recP 2 y.1 y.2).length) cr2) ((recP 2 y.1 y.2).length) ((recP 2 y.1 y.2).flatMap yC) else emp]) (fun ((Ar2, cr2, A9, c10) : Option Addr × Nat × Option Addr × Nat) => [.slice Ap ((prP lif LL jj).length) cp, strV y.1, pt b 0, pt b 0, pt b 4, .map (some r), strV y.1, .slice Av y.2.length cv, .slice Ar2 ((recP 2 y.1 y.2).length) cr2, .slice A9 (((prP lif LL jj) ++ (recP 2 y.1 y.2)).length) c10, undef]) [(0, [], [9, 10]), (5, [], [7, 8, 9, 10]), (7, [5], [8, 9, 10]), (8, [5, 7], [9, 10]), (9, [0, 5, 7, 8], [10]), (10, [0, 5, 7, 8, 9], [])] (none, 0, none, 0) rfl (by kernel_rfl) (by kernel_rfl) F S.drew ?_ ?_ ?_ ?_ ?_
   · rintro ⟨Ar2, cr2, A9, c10⟩; rfl
   · rintro ⟨Ar2, cr2, A9, c10⟩; kernel_rfl
   ·
    intro D D' x h
    obtain ⟨Ar2, cr2, A9, c10⟩ := x
    simp only [h 8 (by decide), h 9 (by decide), h 10 (by decide)]
   ·
    refine ⟨?_, ?_⟩
    ·
     refine ⟨_, rfl, rfl, by kernel_rfl, ?_⟩
     rintro D ⟨Ar2, cr2, A9, c10⟩ a z S F
     refine ⟨by kernel_rfl, ?_⟩
     exact op_ldk (some ⟨b5, 0, none⟩) 0 (.slice Ap ((prP lif LL jj).length) cp) F rfl (cBox S 9 rfl (j := 0) rfl) (⟨(Ar2, cr2, A9, c10), rfl, (SameB.refl _ _ rfl), S⟩)
    refine ⟨?_, ?_⟩
    ·
     refine ⟨_, rfl, rfl, by kernel_rfl, ?_⟩
     rintro D ⟨Ar2, cr2, A9, c10⟩ a z S F
     refine ⟨by kernel_rfl, ?_⟩
     exact op_ldk (some ⟨b, 0, none⟩) 4 (.map (some r)) F rfl (cBox S 3 rfl (j := 4) rfl) (⟨(Ar2, cr2, A9, c10), rfl, (SameB.refl _ _ rfl), S⟩)
    refine ⟨?_, ?_⟩
    ·
     refine ⟨_, rfl, rfl, by kernel_rfl, ?_⟩
     rintro D ⟨Ar2, cr2, A9, c10⟩ a z S F
     refine ⟨by kernel_rfl, ?_⟩
     exact op_slookup S 4 _ 9 36 _ _ false (.slice none 0 0) y.1 (.slice Av y.2.length cv) F rfl rfl (by kernel_rfl) (by kernel_rfl) (by kernel_rfl) (by kernel_rfl) (by kernel_rfl) (by rw [hgt]; rfl) (⟨(Ar2, cr2, A9, c10), rfl, (SameB.refl _ _ rfl), S⟩)
    refine ⟨?_, ?_⟩
    ·
     refine ⟨_, rfl, rfl, by kernel_rfl, ?_⟩
     rintro D ⟨Ar2, cr2, A9, c10⟩ a z S F
     refine ⟨by kernel_rfl, ?_⟩
     refine op_fn F (by kernel_rfl) (record_any _ 2 y.1 (by first | omega | (simp only [List.length_nil]; omega)) Av cv y.2 (bag_recs S (i := 5) rfl hgr (by omega)) (by first | omega | (simp [be4] <;> omega))) ?_
     rintro e z ⟨y11, y12, rfl, g⟩
     have S := S.fillThing 12 rfl g
     exact ⟨_, rfl, (y11, y12, A9, c10), rfl, ⟨rfl, rfl, rfl, rfl, rfl, rfl, rfl, rfl, trivial, trivial, trivial, trivial⟩, S⟩
    refine ⟨?_, ?_⟩
    ·
     refine ⟨_, rfl, rfl, by kernel_rfl, ?_⟩
     rintro D ⟨Ar2, cr2, A9, c10⟩ a z S F
     refine ⟨by kernel_rfl, ?_⟩
     exact op_append S 8 _ _ _ 5 (.int .u8 0) 1 1 (prP lif LL jj) (recP 2 y.1 y.2) yC Ar2 cr2 F yC_len (fun _ => rfl) rfl rfl (by kernel_rfl) (by kernel_rfl) rfl rfl rfl (by kernel_rfl) (by kernel_rfl) (row_none (S.rowOf (i := 12) rfl)) (src_row (S.rowOf (i := 12) rfl)) (by first | omega | (simp [be4] <;> omega)) fun y13 y14 z S => ⟨(Ar2, cr2, y13, y14), rfl, ⟨rfl, rfl, rfl, rfl, rfl, rfl, rfl, rfl, rfl, trivial, trivial, trivial⟩, S⟩
    refine ⟨?_, ?_⟩
    ·
     refine ⟨_, rfl, rfl, by kernel_rfl, ?_⟩
     rintro D ⟨Ar2, cr2, A9, c10⟩ a z S F
     refine ⟨by kernel_rfl, ?_⟩
     exact op_storeB S 9 _ _ _ b5 0 (.slice A9 (((prP lif LL jj) ++ (recP 2 y.1 y.2)).length) c10) F rfl rfl (by kernel_rfl) (by kernel_rfl) (by kernel_rfl) (by kernel_rfl) (by kernel_rfl) fun z S => ⟨(Ar2, cr2, A9, c10), rfl, (SameB.refl _ _ rfl), S⟩
    trivial
   rintro ⟨Ar2, cr2, A9, c10⟩ a z F S
   have F := F.subk (l := [(0, pt b 0), (4, pt b5 0), (35, .slice Ak ((nmsP LL).length) cks), (36, .int .i64 ((nmsP LL).length : Nat)), (37, .int .i64 (jj : Nat))])
   have S : Sat w z [rest w G, sdA g0 sd0, sdA g1 sd1, box b 70 [pt g0 0, pt g1 0, .int .i64 0, .int .u32 (lif : Nat), .map (some r), .int .i64 ded], smapA r (es.map LEnt.e) ck, bag rs, row 5 1 (.slice An ((([] : List UInt8) ++ be4 (lif + 1)).length) cn) ((([] : List UInt8) ++ be4 (lif + 1)).length) ((([] : List UInt8) ++ be4 (lif + 1)).flatMap yC), row 30 1 (.slice (some ⟨b4, 0, none⟩) 1 1) 1 (([lif + 1] : List Nat).flatMap nC), row 5 1 (.slice A9 (((prP lif LL jj) ++ (recP 2 y.1 y.2)).length) c10) (((prP lif LL jj) ++ (recP 2 y.1 y.2)).length) (((prP lif LL jj) ++ (recP 2 y.1 y.2)).flatMap yC), box b5 36 [.slice A9 (((prP lif LL jj) ++ (recP 2 y.1 y.2)).length) c10], box qk 68 [.map (some r)], row 9 1 (.slice Ak ((nmsP LL).length) cks) ((nmsP LL).length) ((nmsP LL).flatMap sC), row 5 1 (.slice Ar2 ((recP 2 y.1 y.2).length) cr2) ((recP 2 y.1 y.2).length) ((recP 2 y.1 y.2).flatMap yC)] := S
   refine inb_n ?_
   refine then_n ?_
   refine wp_region_list ?_
   refine l_do F rfl rfl (op_pk F (v0 := .int .i64 (IntKind.wrap .i64 ((jj : Nat) + 1))) (v := .int .i64 (jj + 1 : Nat)) (wrn_i64 (by omega) (by omega) (by omega)) fun a F => ?_)
   refine l_pk 1 (fun L => (37, .int .i64 (jj + 1 : Nat)) :: L) F fun a F => ?_
   refine l_then ?_
   have ex := prP_succ (lif := lif) hy
   rw [ex] at S
   exact ⟨_, (by omega), (jj + 1), A9, c10, rfl, (by omega), F.subk, (S.pick [0, 1, 2, 3, 4, 5, 6, 7, 8, 9, 10, 11] (by decide))⟩
  have hlm := nmsP_len LL
  have hje : jj = LL.length := by omega
  have hpj := hnm1 jj
  have h4l := recP_len 4 [] []
  rw [List.length_nil] at h4l
  refine l_do F rfl rfl (op_pk F (v0 := .bool (decide (((jj : Nat) : Int) < (((nmsP LL).length : Nat) : Int)))) (v := .bool false) (lssF ht7) fun a F => ?_)
  refine l_then ?_
  refine wp_seq ?_
  refine c_f F rfl ?_
  refine wp_exit ?_
  refine then_x ?_
  refine then_x ?_
  refine inb_x ?_
  refine then_n ?_
  refine wp_seq ?_
  have S := S.pushEmp
  refine region_gx (fun D => fun ((Ar4, cr4, A15, c16) : Option Addr × Nat × Option Addr × Nat) => [rest w G, sdA g0 sd0, sdA g1 sd1, box b 70 [pt g0 0, pt g1 0, .int .i64 0, .int .u32 (lif : Nat), .map (some r), .int .i64 ded], smapA r (es.map LEnt.e) ck, bag rs, row 5 1 (.slice An ((([] : List UInt8) ++ be4 (lif + 1)).length) cn) ((([] : List UInt8) ++ be4 (lif + 1)).length) ((([] : List UInt8) ++ be4 (lif + 1)).flatMap yC), row 30 1 (.slice (some ⟨b4, 0, none⟩) 1 1) 1 (([lif + 1] : List Nat).flatMap nC), bif D 2 then row 5 1 (.slice A15 (((prP lif LL jj) ++ (recP 4 ([] : Bs) [])).length) c16) (((prP lif LL jj) ++ (recP 4 ([] : Bs) [])).length) (((prP lif LL jj) ++ (recP 4 ([] : Bs) [])).flatMap yC) else row 5 1 (.slice Ap ((prP lif LL jj).length) cp) ((prP lif LL jj).length) ((prP lif LL jj).flatMap yC), bif D 3 then box b5 36 [.slice A15 (((prP lif LL jj) ++ (recP 4 ([] : Bs) [])).length) c16] else box b5 36 [.slice Ap ((prP lif LL jj).length) cp], box qk 68 [.map (some r)], row 9 1 (.slice Ak ((nmsP LL).length) cks) ((nmsP LL).length) ((nmsP LL).flatMap sC), bif D 1 then row 5 1 (.slice Ar4 ((recP 4 ([] : Bs) []).length) cr4) ((recP 4 ([] : Bs) []).length) ((recP 4 ([] : Bs) []).flatMap yC) else emp]) (fun ((Ar4, cr4, A15, c16) : Option Addr × Nat × Option Addr × Nat) => [.slice Ap ((prP lif LL jj).length) cp, .slice Ar4 ((recP 4 ([] : Bs) []).length) cr4, .slice A15 (((prP lif LL jj) ++ (recP 4 ([] : Bs) [])).length) c16, undef]) [(0, [], [2, 3]), (1, [], [2, 3]), (2, [0, 1], [3]), (3, [0, 1, 2], [])] (none, 0, none, 0) rfl (by kernel_rfl) (by kernel_rfl) F S.drew ?_ ?_ ?_ ?_ ?_
  · rintro ⟨Ar4, cr4, A15, c16⟩; rfl
  · rintro ⟨Ar4, cr4, A15, c16⟩; kernel_rfl
  ·
   intro D D' x h
   obtain ⟨Ar4, cr4, A15, c16⟩ := x
   simp only [h 1 (by decide), h 2 (by decide), h 3 (by decide)]
  ·
   refine ⟨?_, ?_⟩
   ·
    refine ⟨_, rfl, rfl, by kernel_rfl, ?_⟩
    rintro D ⟨Ar4, cr4, A15, c16⟩ a z S F
    refine ⟨by kernel_rfl, ?_⟩
    exact op_ldk (some ⟨b5, 0, none⟩) 0 (.slice Ap ((prP lif LL jj).length) cp) F rfl (cBox S 9 rfl (j := 0) rfl) (⟨(Ar4, cr4, A15, c16), rfl, (SameB.refl _ _ rfl), S⟩)
   refine ⟨?_, ?_⟩
   ·
    refine ⟨_, rfl, rfl, by kernel_rfl, ?_⟩
    rintro D ⟨Ar4, cr4, A15, c16⟩ a z S F
    refine ⟨by kernel_rfl, ?_⟩
    refine op_fn F (by kernel_rfl) (record_any _ 4 ([] : Bs) (by first | omega | (simp only [List.length_nil]; omega)) none 0 [] recs_nil (by first | omega | (simp [be4] <;> omega))) ?_
    rintro e z ⟨y17, y18, rfl, g⟩
    have S := S.fillThing 12 rfl g
    exact ⟨_, rfl, (y17, y18, A15, c16), rfl, ⟨rfl, trivial, trivial, trivial, trivial⟩, S⟩
   refine ⟨?_, ?_⟩
   ·
    refine ⟨_, rfl, rfl, by kernel_rfl, ?_⟩
    rintro D ⟨Ar4, cr4, A15, c16⟩ a z S F
    refine ⟨by kernel_rfl, ?_⟩
    exact op_append S 8 _ _ _ 5 (.int .u8 0) 1 1 (prP lif LL jj) (recP 4 ([] : Bs) []) yC Ar4 cr4 F yC_len (fun _ => rfl) rfl rfl (by kernel_rfl) (by kernel_rfl) rfl rfl rfl (by kernel_rfl) (by kernel_rfl) (row_none (S.rowOf (i := 12) rfl)) (src_row (S.rowOf (i := 12) rfl)) (by first | omega | (simp [be4] <;> omega)) fun y19 y20 z S => ⟨(Ar4, cr4, y19, y20), rfl, ⟨rfl, rfl, trivial, trivial, trivial⟩, S⟩
   refine ⟨?_, ?_⟩
   ·
    refine ⟨_, rfl, rfl, by kernel_rfl, ?_⟩
    rintro D ⟨Ar4, cr4, A15, c16⟩ a z S F
    refine ⟨by kernel_rfl, ?_⟩
    exact op_storeB S 9 _ _ _ b5 0 (.slice A15 (((prP lif LL jj) ++ (recP 4 ([] : Bs) [])).length) c16) F rfl rfl (by kernel_rfl) (by kernel_rfl) (by kernel_rfl) (by kernel_rfl) (by kernel_rfl) fun z S => ⟨(Ar4, cr4, A15, c16), rfl, (SameB.refl _ _ rfl), S⟩
   trivial
  rintro ⟨Ar4, cr4, A15, c16⟩ a z F S
  have F := F.subk (l := [(0, pt b 0), (4, pt b5 0)])
  have S : Sat w z [rest w G, sdA g0 sd0, sdA g1 sd1, box b 70 [pt g0 0, pt g1 0, .int .i64 0, .int .u32 (lif : Nat), .map (some r), .int .i64 ded], smapA r (es.map LEnt.e) ck, bag rs, row 5 1 (.slice An ((([] : List UInt8) ++ be4 (lif + 1)).length) cn) ((([] : List UInt8) ++ be4 (lif + 1)).length) ((([] : List UInt8) ++ be4 (lif + 1)).flatMap yC), row 30 1 (.slice (some ⟨b4, 0, none⟩) 1 1) 1 (([lif + 1] : List Nat).flatMap nC), row 5 1 (.slice A15 (((prP lif LL jj) ++ (recP 4 ([] : Bs) [])).length) c16) (((prP lif LL jj) ++ (recP 4 ([] : Bs) [])).length) (((prP lif LL jj) ++ (recP 4 ([] : Bs) [])).flatMap yC), box b5 36 [.slice A15 (((prP lif LL jj) ++ (recP 4 ([] : Bs) [])).length) c16], box qk 68 [.map (some r)], row 9 1 (.slice Ak ((nmsP LL).length) cks) ((nmsP LL).length) ((nmsP LL).flatMap sC), row 5 1 (.slice Ar4 ((recP 4 ([] : Bs) []).length) cr4) ((recP 4 ([] : Bs) []).length) ((recP 4 ([] : Bs) []).flatMap yC)] := S
  rw [prP_end hje] at S
  refine then_n ?_
  refine wp_seq ?_
  have S := S.pushEmp
  refine region_gx (fun D => fun (b21 : Nat) => [rest w G, sdA g0 sd0, sdA g1 sd1, box b 70 [pt g0 0, pt g1 0, .int .i64 0, .int .u32 (lif : Nat), .map (some r), .int .i64 ded], smapA r (es.map LEnt.e) ck, bag rs, row 5 1 (.slice An ((([] : List UInt8) ++ be4 (lif + 1)).length) cn) ((([] : List UInt8) ++ be4 (lif + 1)).length) ((([] : List UInt8) ++ be4 (lif + 1)).flatMap yC), row 30 1 (.slice (some ⟨b4, 0, none⟩) 1 1) 1 (([lif + 1] : List Nat).flatMap nC), row 5 1 (.slice A15 ((allP (lif + 1) LL).length) c16) ((allP (lif + 1) LL).length) ((allP (lif + 1) LL).flatMap yC), box b5 36 [.slice A15 ((allP (lif + 1) LL).length) c16], box qk 68 [.map (some r)], row 9 1 (.slice Ak ((nmsP LL).length) cks) ((nmsP LL).length) ((nmsP LL).flatMap sC), row 5 1 (.slice Ar4 ((recP 4 ([] : Bs) []).length) cr4) ((recP 4 ([] : Bs) []).length) ((recP 4 ([] : Bs) []).flatMap yC), bif D 11 then box b21 23 [pt g1 0] else (bif D 10 then box b21 23 [.pointer none] else emp)]) (fun (b21 : Nat) => [pt b 0, pt b 0, pt b 0, pt b 2, .int .i64 0, .int .i64 1, pt b 0, pt b 0, pt b 1, pt g1 0, pt b21 0, undef]) [(4, [], [9, 11]), (9, [4], [11]), (10, [], [11]), (11, [4, 9, 10], [])] 0 rfl (by kernel_rfl) (by kernel_rfl) F S.drew ?_ ?_ ?_ ?_ ?_
  · rintro b21; rfl
  · rintro b21; kernel_rfl
  ·
   intro D D' x h
   obtain b21 := x
   simp only [h 10 (by decide), h 11 (by decide)]
  ·
   refine ⟨?_, ?_⟩
   ·
    refine ⟨_, rfl, rfl, by kernel_rfl, ?_⟩
    rintro D b21 a z S F
    refine ⟨by kernel_rfl, ?_⟩
    exact op_ldk (some ⟨b, 0, none⟩) 2 (.int .i64 0) F rfl (cBox S 3 rfl (j := 2) rfl) (⟨b21, rfl, (SameB.refl _ _ rfl), S⟩)
   refine ⟨?_, ?_⟩
   ·
    refine ⟨_, rfl, rfl, by kernel_rfl, ?_⟩
    rintro D b21 a z S F
    refine ⟨by kernel_rfl, ?_⟩
    exact op_ldk (some ⟨b, 0, none⟩) 1 (pt g1 0) F rfl (cBox S 3 rfl (j := 1) rfl) (⟨b21, rfl, (SameB.refl _ _ rfl), S⟩)
   refine ⟨?_, ?_⟩
   ·
    refine ⟨_, rfl, rfl, by kernel_rfl, ?_⟩
    rintro D b21 a z S F
    refine ⟨by kernel_rfl, ?_⟩
    exact op_allocF S 13 rfl _ (.pointer none) rfl (by kernel_rfl) fun y22 z S => ⟨y22, rfl, ⟨rfl, rfl, rfl, rfl, rfl, rfl, rfl, rfl, rfl, rfl, trivial, trivial, trivial⟩, S⟩
   refine ⟨?_, ?_⟩
   ·
    refine ⟨_, rfl, rfl, by kernel_rfl, ?_⟩
    rintro D b21 a z S F
    refine ⟨by kernel_rfl, ?_⟩
    exact op_storeB S 13 _ _ _ b21 0 (pt g1 0) F rfl rfl (by kernel_rfl) (by kernel_rfl) (by kernel_rfl) (by kernel_rfl) (by kernel_rfl) fun z S => ⟨b21, rfl, (SameB.refl _ _ rfl), S⟩
   trivial
  rintro b21 a z F S
  have F := F.subk (l := [(0, pt b 0), (4, pt b5 0), (7, pt b21 0)])
  have S : Sat w z [rest w G, sdA g0 sd0, sdA g1 sd1, box b 70 [pt g0 0, pt g1 0, .int .i64 0, .int .u32 (lif : Nat), .map (some r), .int .i64 ded], smapA r (es.map LEnt.e) ck, bag rs, row 5 1 (.slice An ((([] : List UInt8) ++ be4 (lif + 1)).length) cn) ((([] : List UInt8) ++ be4 (lif + 1)).length) ((([] : List UInt8) ++ be4 (lif + 1)).flatMap yC), row 30 1 (.slice (some ⟨b4, 0, none⟩) 1 1) 1 (([lif + 1] : List Nat).flatMap nC), row 5 1 (.slice A15 ((allP (lif + 1) LL).length) c16) ((allP (lif + 1) LL).length) ((allP (lif + 1) LL).flatMap yC), box b5 36 [.slice A15 ((allP (lif + 1) LL).length) c16], box qk 68 [.map (some r)], row 9 1 (.slice Ak ((nmsP LL).length) cks) ((nmsP LL).length) ((nmsP LL).flatMap sC), row 5 1 (.slice Ar4 ((recP 4 ([] : Bs) []).length) cr4) ((recP 4 ([] : Bs) []).length) ((recP 4 ([] : Bs) []).flatMap yC), box b21 23 [pt g1 0]] := S
  refine then_n ?_
  refine wp_seq ?_
  refine s_reg ?_
  refine l_do F rfl rfl (op_ldk (some ⟨b21, 0, none⟩) 0 (pt g1 0) F rfl (cBox S 13 rfl (j := 0) rfl) (fun a F => ?_))
  refine l_pk 2 (fun L => (67, .func (.func 42) #[] #[pt b21 0, pt b5 0]) :: (66, .func (.func 41) #[pt g1 0] #[]) :: L) F fun a F => ?_
  refine l_do F rfl rfl (op_ldk (some ⟨b21, 0, none⟩) 0 (pt g1 0) F rfl (cBox S 13 rfl (j := 0) rfl) (fun a F => ?_))
  refine l_pk 1 (fun L => (69, .func (.func 37) #[pt g1 0] #[]) :: L) F fun a F => ?_
  refine l_do F rfl rfl (op_buildSlice S _ 3 _ 39 1 vC ([(.func (.func 41) #[pt g1 0] #[]), (.func (.func 42) #[] #[pt b21 0, pt b5 0]), (.func (.func 37) #[pt g1 0] #[])] : List Value) F rfl (by kernel_rfl) (by kernel_rfl) (by kernel_rfl) (by unfold maxLen; omega) fun b23 z S a F => ?_)
  refine l_pk 2 (fun L => (72, .int .i64 0) :: (71, .int .i64 3) :: L) F fun a F => ?_
  refine l_then ?_
  refine wp_block ?_
  refine wp_loop_rounds 4 (rnd ?_)
  refine s_reg ?_
  refine l_pk 1 (fun L => (73, .bool true) :: L) F fun a F => ?_
  refine l_then ?_
  refine wp_seq ?_
  refine c_t F rfl ?_
  refine wp_skip ?_
  refine then_n ?_
  refine wp_seq ?_
  refine wp_block ?_
  refine s_reg ?_
  refine l_do F rfl rfl (op_index _ 39 _ _ (some ⟨b23, 0, none⟩) 3 3 0 1 .i64 F rfl (by kernel_rfl) (by kernel_rfl) (by kernel_rfl) (by kernel_rfl) (by decide) rfl (fun a F => ?_))
  refine l_do F rfl rfl (op_ldk (some ⟨b23, 0, none⟩) (0 * 1) (.func (.func 41) #[pt g1 0] #[]) F rfl (cRec S 14 vC_len rfl 0 (show ([(.func (.func 41) #[pt g1 0] #[]), (.func (.func 42) #[] #[pt b21 0, pt b5 0]), (.func (.func 37) #[pt g1 0] #[])] : List Value)[0]? = some (.func (.func 41) #[pt g1 0] #[]) from rfl) rfl) (fun a F => ?_))
  refine l_pk 1 (fun L => (9, .func (.func 41) #[pt g1 0] #[]) :: L) F fun a F => ?_
  refine l_then ?_
  refine s_reg ?_
  refine l_pk 1 (fun L => (76, .func (.func 41) #[pt g1 0] #[]) :: L) F fun a F => ?_
  refine l_do F rfl rfl (op_fn F (by kernel_rfl) (serase_at S (i := 2) rfl (in1) (by omega)) ?_)
  rintro e z ⟨rfl, S⟩
  refine ⟨_, rfl, ?_⟩
  intro a F
  refine l_pk 1 (fun L => (10, .int .i64 sd1.stepE) :: L) F fun a F => ?_
  refine l_then ?_
  refine s_reg ?_
  refine l_pk 1 (fun L => (78, .int .i64 sd1.stepE) :: L) F fun a F => ?_
  by_cases ht24 : (sd1.stepE : Int) = (0 : Int)
  ·
   refine l_do F rfl rfl (op_pk F (v0 := .bool ((sd1.stepE : Int) != (0 : Int))) (v := .bool false) (neqF ht24) fun a F => ?_)
   refine l_then ?_
   refine c_f F rfl ?_
   refine wp_skip ?_
   refine inb_n ?_
   refine then_n ?_
   refine wp_region_list ?_
   refine l_pk 2 (fun L => (72, .int .i64 1) :: (83, .int .i64 1) :: L) F fun a F => ?_
   refine l_then ?_
   refine rnd ?_
   refine s_reg ?_
   refine l_pk 1 (fun L => (73, .bool true) :: L) F fun a F => ?_
   refine l_then ?_
   refine wp_seq ?_
   refine c_t F rfl ?_
   refine wp_skip ?_
   refine then_n ?_
   refine wp_seq ?_
   refine wp_block ?_
   refine s_reg ?_
   refine l_do F rfl rfl (op_index _ 39 _ _ (some ⟨b23, 0, none⟩) 3 3 1 1 .i64 F rfl (by kernel_rfl) (by kernel_rfl) (by kernel_rfl) (by kernel_rfl) (by decide) rfl (fun a F => ?_))
   refine l_do F rfl rfl (op_ldk (some ⟨b23, 0, none⟩) (1 * 1) (.func (.func 42) #[] #[pt b21 0, pt b5 0]) F rfl (cRec S 14 vC_len rfl 0 (show ([(.func (.func 41) #[pt g1 0] #[]), (.func (.func 42) #[] #[pt b21 0, pt b5 0]), (.func (.func 37) #[pt g1 0] #[])] : List Value)[1]? = some (.func (.func 42) #[] #[pt b21 0, pt b5 0]) from rfl) rfl) (fun a F => ?_))
   refine l_pk 1 (fun L => (9, .func (.func 42) #[] #[pt b21 0, pt b5 0]) :: L) F fun a F => ?_
   refine l_then ?_
   refine s_reg ?_
   refine l_pk 1 (fun L => (76, .func (.func 42) #[] #[pt b21 0, pt b5 0]) :: L) F fun a F => ?_
   obtain ⟨G9, g9, hin9, hlt9, k9⟩ := S.frameB [13, 9, 8, 2] (by decide) rfl
   refine l_do F rfl rfl (op_fn F (by kernel_rfl) (lcompF_any _ G9 b21 b5 g1 sd1.ers (N + 1) ((in1).ers) (by omega) A15 c16 (allP (lif + 1) LL) (by omega) g9) ?_)
   rintro e z9 ⟨rfl, g⟩
   have S : Sat w z9 [rest w G, sdA g0 sd0, sdA g1 (sd1.ers.app (allP (lif + 1) LL)), box b 70 [pt g0 0, pt g1 0, .int .i64 0, .int .u32 (lif : Nat), .map (some r), .int .i64 ded], smapA r (es.map LEnt.e) ck, bag rs, row 5 1 (.slice An ((([] : List UInt8) ++ be4 (lif + 1)).length) cn) ((([] : List UInt8) ++ be4 (lif + 1)).length) ((([] : List UInt8) ++ be4 (lif + 1)).flatMap yC), row 30 1 (.slice (some ⟨b4, 0, none⟩) 1 1) 1 (([lif + 1] : List Nat).flatMap nC), row 5 1 (.slice A15 ((allP (lif + 1) LL).length) c16) ((allP (lif + 1) LL).length) ((allP (lif + 1) LL).flatMap yC), box b5 36 [.slice A15 ((allP (lif + 1) LL).length) c16], box qk 68 [.map (some r)], row 9 1 (.slice Ak ((nmsP LL).length) cks) ((nmsP LL).length) ((nmsP LL).flatMap sC), row 5 1 (.slice Ar4 ((recP 4 ([] : Bs) []).length) cr4) ((recP 4 ([] : Bs) []).length) ((recP 4 ([] : Bs) []).flatMap yC), box b21 23 [pt g1 0], row 39 1 (.slice (some ⟨b23, 0, none⟩) 3 3) 3 (([(.func (.func 41) #[pt g1 0] #[]), (.func (.func 42) #[] #[pt b21 0, pt b5 0]), (.func (.func 37) #[pt g1 0] #[])] : List Value).flatMap vC)] := k9 z9 [box b21 23 [pt g1 0], box b5 36 [.slice A15 ((allP (lif + 1) LL).length) c16], row 5 1 (.slice A15 ((allP (lif + 1) LL).length) c16) ((allP (lif + 1) LL).length) ((allP (lif + 1) LL).flatMap yC), sdA g1 (sd1.ers.app (allP (lif + 1) LL))] rfl g
   clear g g9 k9 hin9 hlt9
   refine ⟨_, rfl, ?_⟩
   intro a F
   refine l_pk 1 (fun L => (10, .int .i64 (sd1.ers.appE (allP (lif + 1) LL).length)) :: L) F fun a F => ?_
   refine l_then ?_
   refine s_reg ?_
   refine l_pk 1 (fun L => (78, .int .i64 (sd1.ers.appE (allP (lif + 1) LL).length)) :: L) F fun a F => ?_
   by_cases ht25 : (sd1.ers.appE (allP (lif + 1) LL).length : Int) = (0 : Int)
   ·
    refine l_do F rfl rfl (op_pk F (v0 := .bool ((sd1.ers.appE (allP (lif + 1) LL).length : Int) != (0 : Int))) (v := .bool false) (neqF ht25) fun a F => ?_)
    refine l_then ?_
    refine c_f F rfl ?_
    refine wp_skip ?_
    refine inb_n ?_
    refine then_n ?_
    refine wp_region_list ?_
    refine l_pk 2 (fun L => (72, .int .i64 2) :: (83, .int .i64 2) :: L) F fun a F => ?_
    refine l_then ?_
    refine rnd ?_
    refine s_reg ?_
    refine l_pk 1 (fun L => (73, .bool true) :: L) F fun a F => ?_
    refine l_then ?_
    refine wp_seq ?_
    refine c_t F rfl ?_
    refine wp_skip ?_
    refine then_n ?_
    refine wp_seq ?_
    refine wp_block ?_
    refine s_reg ?_
    refine l_do F rfl rfl (op_index _ 39 _ _ (some ⟨b23, 0, none⟩) 3 3 2 1 .i64 F rfl (by kernel_rfl) (by kernel_rfl) (by kernel_rfl) (by kernel_rfl) (by decide) rfl (fun a F => ?_))
    refine l_do F rfl rfl (op_ldk (some ⟨b23, 0, none⟩) (2 * 1) (.func (.func 37) #[pt g1 0] #[]) F rfl (cRec S 14 vC_len rfl 0 (show ([(.func (.func 41) #[pt g1 0] #[]), (.func (.func 42) #[] #[pt b21 0, pt b5 0]), (.func (.func 37) #[pt g1 0] #[])] : List Value)[2]? = some (.func (.func 37) #[pt g1 0] #[]) from rfl) rfl) (fun a F => ?_))
    refine l_pk 1 (fun L => (9, .func (.func 37) #[pt g1 0] #[]) :: L) F fun a F => ?_
    refine l_then ?_
    refine s_reg ?_
    refine l_pk 1 (fun L => (76, .func (.func 37) #[pt g1 0] #[]) :: L) F fun a F => ?_
    refine l_do F rfl rfl (op_fn F (by kernel_rfl) (ssync_at S (i := 2) rfl (((in1).ers).app _) (by omega)) ?_)
    rintro e z ⟨rfl, S⟩
    refine ⟨_, rfl, ?_⟩
    intro a F
    refine l_pk 1 (fun L => (10, .int .i64 ((sd1.ers.app (allP (lif + 1) LL)).stepE)) :: L) F fun a F => ?_
    refine l_then ?_
    refine s_reg ?_
    refine l_pk 1 (fun L => (78, .int .i64 ((sd1.ers.app (allP (lif + 1) LL)).stepE)) :: L) F fun a F => ?_
    by_cases ht26 : ((sd1.ers.app (allP (lif + 1) LL)).stepE : Int) = (0 : Int)
    ·
     refine l_do F rfl rfl (op_pk F (v0 := .bool (((sd1.ers.app (allP (lif + 1) LL)).stepE : Int) != (0 : Int))) (v := .bool false) (neqF ht26) fun a F => ?_)
     refine l_then ?_
     refine c_f F rfl ?_
     refine wp_skip ?_
     refine inb_n ?_
     refine then_n ?_
     refine wp_region_list ?_
     refine l_pk 2 (fun L => (72, .int .i64 3) :: (83, .int .i64 3) :: L) F fun a F => ?_
     refine l_then ?_
     refine rnd ?_
     refine s_reg ?_
     refine l_pk 1 (fun L => (73, .bool false) :: L) F fun a F => ?_
     refine l_then ?_
     refine wp_seq ?_
     refine c_f F rfl ?_
     refine wp_exit ?_
     refine then_x ?_
     refine then_x ?_
     refine inb_x ?_
     refine then_n ?_
     refine wp_seq ?_
     refine region_gx (fun D => fun (_ : Unit) => [rest w G, sdA g0 sd0, sdA g1 (sd1.ers.app (allP (lif + 1) LL)).syn, bif D 17 then box b 70 [pt g0 0, pt g1 0, .int .i64 1, .int .u32 (lif + 1 : Nat), .map (some r), .int .i64 ded] else (bif D 14 then box b 70 [pt g0 0, pt g1 0, .int .i64 1, .int .u32 (lif : Nat), .map (some r), .int .i64 ded] else box b 70 [pt g0 0, pt g1 0, .int .i64 0, .int .u32 (lif : Nat), .map (some r), .int .i64 ded]), smapA r (es.map LEnt.e) ck, bag rs, row 5 1 (.slice An ((([] : List UInt8) ++ be4 (lif + 1)).length) cn) ((([] : List UInt8) ++ be4 (lif + 1)).length) ((([] : List UInt8) ++ be4 (lif + 1)).flatMap yC), row 30 1 (.slice (some ⟨b4, 0, none⟩) 1 1) 1 (([lif + 1] : List Nat).flatMap nC), row 5 1 (.slice A15 ((allP (lif + 1) LL).length) c16) ((allP (lif + 1) LL).length) ((allP (lif + 1) LL).flatMap yC), box b5 36 [.slice A15 ((allP (lif + 1) LL).length) c16], box qk 68 [.map (some r)], row 9 1 (.slice Ak ((nmsP LL).length) cks) ((nmsP LL).length) ((nmsP LL).flatMap sC), row 5 1 (.slice Ar4 ((recP 4 ([] : Bs) []).length) cr4) ((recP 4 ([] : Bs) []).length) ((recP 4 ([] : Bs) []).flatMap yC), box b21 23 [pt g1 0], row 39 1 (.slice (some ⟨b23, 0, none⟩) 3 3) 3 (([(.func (.func 41) #[pt g1 0] #[]), (.func (.func 42) #[] #[pt b21 0, pt b5 0]), (.func (.func 37) #[pt g1 0] #[])] : List Value).flatMap vC)]) (fun (_ : Unit) => [pt b 0, pt b 0, pt b 0, pt b 0, pt b 2, .int .i64 0, .int .i64 1, pt b 0, pt b 0, pt b 3, .int .u32 (lif : Nat), .int .u32 (lif + 1 : Nat), pt b 0, pt b 2, undef, pt b 0, pt b 3, undef]) [(5, [], [14, 17]), (10, [], [11, 14, 17]), (11, [10], [17]), (14, [5, 10], [17]), (17, [5, 10, 11, 14], [])] () rfl (by kernel_rfl) (by kernel_rfl) F S.drew ?_ ?_ ?_ ?_ ?_
     · rintro ⟨⟩; rfl
     · rintro ⟨⟩; kernel_rfl
     ·
      intro D D' x h
      cases x
      simp only [h 14 (by decide), h 17 (by decide)]
     ·
      refine ⟨?_, ?_⟩
      ·
       refine ⟨_, rfl, rfl, by kernel_rfl, ?_⟩
       rintro D ⟨⟩ a z S F
       refine ⟨by kernel_rfl, ?_⟩
       exact op_ldk (some ⟨b, 0, none⟩) 2 (.int .i64 0) F rfl (cBox S 3 rfl (j := 2) rfl) (⟨(), rfl, (SameB.refl _ _ rfl), S⟩)
      refine ⟨?_, ?_⟩
      ·
       refine ⟨_, rfl, rfl, by kernel_rfl, ?_⟩
       rintro D ⟨⟩ a z S F
       refine ⟨by kernel_rfl, ?_⟩
       exact op_ldk (some ⟨b, 0, none⟩) 3 (.int .u32 (lif : Nat)) F rfl (cBox S 3 rfl (j := 3) rfl) (⟨(), rfl, (SameB.refl _ _ rfl), S⟩)
      refine ⟨?_, ?_⟩
      ·
       refine ⟨_, rfl, rfl, by kernel_rfl, ?_⟩
       rintro D ⟨⟩ a z S F
       refine ⟨by kernel_rfl, ?_⟩
       exact op_pk F (v0 := .int .u32 (IntKind.wrap .u32 ((lif : Nat) + 1))) (v := .int .u32 (lif + 1 : Nat)) (wrn_u32 (by omega) (by omega) (by omega)) ⟨(), rfl, (SameB.refl _ _ rfl), S⟩
      refine ⟨?_, ?_⟩
      ·
       refine ⟨_, rfl, rfl, by kernel_rfl, ?_⟩
       rintro D ⟨⟩ a z S F
       refine ⟨by kernel_rfl, ?_⟩
       exact op_storeB S 3 _ _ _ b 2 (.int .i64 1) F rfl rfl (by kernel_rfl) (by kernel_rfl) (by kernel_rfl) (by kernel_rfl) (by kernel_rfl) fun z S => ⟨(), rfl, (SameB.refl _ _ rfl), S⟩
      refine ⟨?_, ?_⟩
      ·
       refine ⟨_, rfl, rfl, by kernel_rfl, ?_⟩
       rintro D ⟨⟩ a z S F
       refine ⟨by kernel_rfl, ?_⟩
       exact op_storeB S 3 _ _ _ b 3 (.int .u32 (lif + 1 : Nat)) F rfl rfl (by kernel_rfl) (by kernel_rfl) (by kernel_rfl) (by kernel_rfl) (by kernel_rfl) fun z S => ⟨(), rfl, (SameB.refl _ _ rfl), S⟩
      trivial
     rintro ⟨⟩ a z F S
     have F := F.sub (l := []) trivial
     have S : Sat w z [rest w G, sdA g0 sd0, sdA g1 (sd1.ers.app (allP (lif + 1) LL)).syn, box b 70 [pt g0 0, pt g1 0, .int .i64 1, .int .u32 (lif + 1 : Nat), .map (some r), .int .i64 ded], smapA r (es.map LEnt.e) ck, bag rs, row 5 1 (.slice An ((([] : List UInt8) ++ be4 (lif + 1)).length) cn) ((([] : List UInt8) ++ be4 (lif + 1)).length) ((([] : List UInt8) ++ be4 (lif + 1)).flatMap yC), row 30 1 (.slice (some ⟨b4, 0, none⟩) 1 1) 1 (([lif + 1] : List Nat).flatMap nC), row 5 1 (.slice A15 ((allP (lif + 1) LL).length) c16) ((allP (lif + 1) LL).length) ((allP (lif + 1) LL).flatMap yC), box b5 36 [.slice A15 ((allP (lif + 1) LL).length) c16], box qk 68 [.map (some r)], row 9 1 (.slice Ak ((nmsP LL).length) cks) ((nmsP LL).length) ((nmsP LL).flatMap sC), row 5 1 (.slice Ar4 ((recP 4 ([] : Bs) []).length) cr4) ((recP 4 ([] : Bs) []).length) ((recP 4 ([] : Bs) []).flatMap yC), box b21 23 [pt g1 0], row 39 1 (.slice (some ⟨b23, 0, none⟩) 3 3) 3 (([(.func (.func 41) #[pt g1 0] #[]), (.func (.func 42) #[] #[pt b21 0, pt b5 0]), (.func (.func 37) #[pt g1 0] #[])] : List Value).flatMap vC)] := S
     refine then_n ?_
     refine s_reg ?_
     refine l_pk 1 (fun L => (2, .int .i64 0) :: L) F fun a F => ?_
     refine l_then ?_
     refine wp_ret ?_
     exact fin F [.tmp 2] [.int .i64 0] rfl ⟨by kernel_rfl, trivial⟩ (.int .i64 0) rfl ⟨by rw [comp_ok0 ht1 (by omega) ht24 ht25 ht26], by rw [comp_ok0 ht1 (by omega) ht24 ht25 ht26]; exact (lg_shut hok (S.pick [0, 1, 2, 3, 4, 5] (by decide)))⟩
    refine l_do F rfl rfl (op_pk F (v0 := .bool (((sd1.ers.app (allP (lif + 1) LL)).stepE : Int) != (0 : Int))) (v := .bool true) (neqT ht26) fun a F => ?_)
    refine l_then ?_
    refine c_t F rfl ?_
    refine s_reg ?_
    refine l_pk 2 (fun L => (81, .int .i64 ((sd1.ers.app (allP (lif + 1) LL)).stepE)) :: (80, pt b 0) :: L) F fun a F => ?_
    obtain ⟨G9, g9, hin9, hlt9, k9⟩ := S.frameB [3] (by decide) rfl
    refine l_do F rfl rfl (op_fn F (by kernel_rfl) (lfail_any _ G9 b (pt g0 0) (pt g1 0) (.int .i64 0) (.int .u32 (lif : Nat)) (.map (some r)) ded g9 ((sd1.ers.app (allP (lif + 1) LL)).stepE)) ?_)
    rintro e z9 ⟨rfl, g⟩
    have S : Sat w z9 [rest w G, sdA g0 sd0, sdA g1 (sd1.ers.app (allP (lif + 1) LL)).syn, box b 70 [pt g0 0, pt g1 0, .int .i64 0, .int .u32 (lif : Nat), .map (some r), .int .i64 (failD ded ((sd1.ers.app (allP (lif + 1) LL)).stepE))], smapA r (es.map LEnt.e) ck, bag rs, row 5 1 (.slice An ((([] : List UInt8) ++ be4 (lif + 1)).length) cn) ((([] : List UInt8) ++ be4 (lif + 1)).length) ((([] : List UInt8) ++ be4 (lif + 1)).flatMap yC), row 30 1 (.slice (some ⟨b4, 0, none⟩) 1 1) 1 (([lif + 1] : List Nat).flatMap nC), row 5 1 (.slice A15 ((allP (lif + 1) LL).length) c16) ((allP (lif + 1) LL).length) ((allP (lif + 1) LL).flatMap yC), box b5 36 [.slice A15 ((allP (lif + 1) LL).length) c16], box qk 68 [.map (some r)], row 9 1 (.slice Ak ((nmsP LL).length) cks) ((nmsP LL).length) ((nmsP LL).flatMap sC), row 5 1 (.slice Ar4 ((recP 4 ([] : Bs) []).length) cr4) ((recP 4 ([] : Bs) []).length) ((recP 4 ([] : Bs) []).flatMap yC), box b21 23 [pt g1 0], row 39 1 (.slice (some ⟨b23, 0, none⟩) 3 3) 3 (([(.func (.func 41) #[pt g1 0] #[]), (.func (.func 42) #[] #[pt b21 0, pt b5 0]), (.func (.func 37) #[pt g1 0] #[])] : List Value).flatMap vC)] := k9 z9 [box b 70 [pt g0 0, pt g1 0, .int .i64 0, .int .u32 (lif : Nat), .map (some r), .int .i64 (failD ded ((sd1.ers.app (allP (lif + 1) LL)).stepE))]] rfl g
    clear g g9 k9 hin9 hlt9
    refine ⟨_, rfl, ?_⟩
    intro a F
    refine l_pk 1 (fun L => (2, .int .i64 ((sd1.ers.app (allP (lif + 1) LL)).stepE)) :: L) F fun a F => ?_
    refine l_then ?_
    refine wp_ret ?_
    refine inb_r (then_r (then_r (inb_r (then_r (?_)))))
    exact fin F [.tmp 2] [.int .i64 ((sd1.ers.app (allP (lif + 1) LL)).stepE)] rfl ⟨by kernel_rfl, trivial⟩ (.int .i64 ((sd1.ers.app (allP (lif + 1) LL)).stepE)) rfl ⟨by rw [comp_s0 ht1 (by omega) ht24 ht25 ht26], by rw [comp_s0 ht1 (by omega) ht24 ht25 ht26]; exact (lg_shut hok (S.pick [0, 1, 2, 3, 4, 5] (by decide)))⟩
   refine l_do F rfl rfl (op_pk F (v0 := .bool ((sd1.ers.appE (allP (lif + 1) LL).length : Int) != (0 : Int))) (v := .bool true) (neqT ht25) fun a F => ?_)
   refine l_then ?_
   refine c_t F rfl ?_
   refine s_reg ?_
   refine l_pk 2 (fun L => (81, .int .i64 (sd1.ers.appE (allP (lif + 1) LL).length)) :: (80, pt b 0) :: L) F fun a F => ?_
   obtain ⟨G9, g9, hin9, hlt9, k9⟩ := S.frameB [3] (by decide) rfl
   refine l_do F rfl rfl (op_fn F (by kernel_rfl) (lfail_any _ G9 b (pt g0 0) (pt g1 0) (.int .i64 0) (.int .u32 (lif : Nat)) (.map (some r)) ded g9 (sd1.ers.appE (allP (lif + 1) LL).length)) ?_)
   rintro e z9 ⟨rfl, g⟩
   have S : Sat w z9 [rest w G, sdA g0 sd0, sdA g1 (sd1.ers.app (allP (lif + 1) LL)), box b 70 [pt g0 0, pt g1 0, .int .i64 0, .int .u32 (lif : Nat), .map (some r), .int .i64 (failD ded (sd1.ers.appE (allP (lif + 1) LL).length))], smapA r (es.map LEnt.e) ck, bag rs, row 5 1 (.slice An ((([] : List UInt8) ++ be4 (lif + 1)).length) cn) ((([] : List UInt8) ++ be4 (lif + 1)).length) ((([] : List UInt8) ++ be4 (lif + 1)).flatMap yC), row 30 1 (.slice (some ⟨b4, 0, none⟩) 1 1) 1 (([lif + 1] : List Nat).flatMap nC), row 5 1 (.slice A15 ((allP (lif + 1) LL).length) c16) ((allP (lif + 1) LL).length) ((allP (lif + 1) LL).flatMap yC), box b5 36 [.slice A15 ((allP (lif + 1) LL).length) c16], box qk 68 [.map (some r)], row 9 1 (.slice Ak ((nmsP LL).length) cks) ((nmsP LL).length) ((nmsP LL).flatMap sC), row 5 1 (.slice Ar4 ((recP 4 ([] : Bs) []).length) cr4) ((recP 4 ([] : Bs) []).length) ((recP 4 ([] : Bs) []).flatMap yC), box b21 23 [pt g1 0], row 39 1 (.slice (some ⟨b23, 0, none⟩) 3 3) 3 (([(.func (.func 41) #[pt g1 0] #[]), (.func (.func 42) #[] #[pt b21 0, pt b5 0]), (.func (.func 37) #[pt g1 0] #[])] : List Value).flatMap vC)] := k9 z9 [box b 70 [pt g0 0, pt g1 0, .int .i64 0, .int .u32 (lif : Nat), .map (some r), .int .i64 (failD ded (sd1.ers.appE (allP (lif + 1) LL).length))]] rfl g
   clear g g9 k9 hin9 hlt9
   refine ⟨_, rfl, ?_⟩
   intro a F
   refine l_pk 1 (fun L => (2, .int .i64 (sd1.ers.appE (allP (lif + 1) LL).length)) :: L) F fun a F => ?_
   refine l_then ?_
   refine wp_ret ?_
   refine inb_r (then_r (then_r (inb_r (then_r (?_)))))
   exact fin F [.tmp 2] [.int .i64 (sd1.ers.appE (allP (lif + 1) LL).length)] rfl ⟨by kernel_rfl, trivial⟩ (.int .i64 (sd1.ers.appE (allP (lif + 1) LL).length)) rfl ⟨by rw [comp_a0 ht1 (by omega) ht24 ht25], by rw [comp_a0 ht1 (by omega) ht24 ht25]; exact (lg_shut hok (S.pick [0, 1, 2, 3, 4, 5] (by decide)))⟩
  refine l_do F rfl rfl (op_pk F (v0 := .bool ((sd1.stepE : Int) != (0 : Int))) (v := .bool true) (neqT ht24) fun a F => ?_)
  refine l_then ?_
  refine c_t F rfl ?_
  refine s_reg ?_
  refine l_pk 2 (fun L => (81, .int .i64 sd1.stepE) :: (80, pt b 0) :: L) F fun a F => ?_
  obtain ⟨G9, g9, hin9, hlt9, k9⟩ := S.frameB [3] (by decide) rfl
  refine l_do F rfl rfl (op_fn F (by kernel_rfl) (lfail_any _ G9 b (pt g0 0) (pt g1 0) (.int .i64 0) (.int .u32 (lif : Nat)) (.map (some r)) ded g9 sd1.stepE) ?_)
  rintro e z9 ⟨rfl, g⟩
  have S : Sat w z9 [rest w G, sdA g0 sd0, sdA g1 sd1.ers, box b 70 [pt g0 0, pt g1 0, .int .i64 0, .int .u32 (lif : Nat), .map (some r), .int .i64 (failD ded sd1.stepE)], smapA r (es.map LEnt.e) ck, bag rs, row 5 1 (.slice An ((([] : List UInt8) ++ be4 (lif + 1)).length) cn) ((([] : List UInt8) ++ be4 (lif + 1)).length) ((([] : List UInt8) ++ be4 (lif + 1)).flatMap yC), row 30 1 (.slice (some ⟨b4, 0, none⟩) 1 1) 1 (([lif + 1] : List Nat).flatMap nC), row 5 1 (.slice A15 ((allP (lif + 1) LL).length) c16) ((allP (lif + 1) LL).length) ((allP (lif + 1) LL).flatMap yC), box b5 36 [.slice A15 ((allP (lif + 1) LL).length) c16], box qk 68 [.map (some r)], row 9 1 (.slice Ak ((nmsP LL).length) cks) ((nmsP LL).length) ((nmsP LL).flatMap sC), row 5 1 (.slice Ar4 ((recP 4 ([] : Bs) []).length) cr4) ((recP 4 ([] : Bs) []).length) ((recP 4 ([] : Bs) []).flatMap yC), box b21 23 [pt g1 0], row 39 1 (.slice (some ⟨b23, 0, none⟩) 3 3) 3 (([(.func (.func 41) #[pt g1 0] #[]), (.func (.func 42) #[] #[pt b21 0, pt b5 0]), (.func (.func 37) #[pt g1 0] #[])] : List Value).flatMap vC)] := k9 z9 [box b 70 [pt g0 0, pt g1 0, .int .i64 0, .int .u32 (lif : Nat), .map (some r), .int .i64 (failD ded sd1.stepE)]] rfl g
  clear g g9 k9 hin9 hlt9
  refine ⟨_, rfl, ?_⟩
  intro a F
  refine l_pk 1 (fun L => (2, .int .i64 sd1.stepE) :: L) F fun a F => ?_
  refine l_then ?_
  refine wp_ret ?_
  refine inb_r (then_r (then_r (inb_r (then_r (?_)))))
  exact fin F [.tmp 2] [.int .i64 sd1.stepE] rfl ⟨by kernel_rfl, trivial⟩ (.int .i64 sd1.stepE) rfl ⟨by rw [comp_e0 ht1 (by omega) ht24], by rw [comp_e0 ht1 (by omega) ht24]; exact (lg_shut hok (S.pick [0, 1, 2, 3, 4, 5] (by decide)))⟩
 refine l_do F rfl rfl (op_pk F (v0 := .bool ((ded : Int) != (0 : Int))) (v := .bool true) (neqT ht1) fun a F => ?_)
 refine l_then ?_
 refine c_t F rfl ?_
 refine s_reg ?_
 refine l_pk 2 (fun L => (2, .int .i64 ded) :: (15, .int .i64 ded) :: L) F fun a F => ?_
 refine l_then ?_
 refine wp_ret ?_
 refine then_r (?_)
 exact fin F [.tmp 2] [.int .i64 ded] rfl ⟨by kernel_rfl, trivial⟩ (.int .i64 ded) rfl ⟨by rw [comp_dead ht1], by rw [comp_dead ht1]; exact (lg_shut hok (S.pick [0, 1, 2, 3, 4, 5] (by decide)))⟩
set_option maxRecDepth 100000 in
set_option maxHeartbeats 4000000 in
theorem lcomp1_any (w : World) (G : Nat → Prop) (b g0 g1 : Nat) (lif : Nat) (LL : List NV) (ded : Int) (sd0 sd1 : Sd) (N : Int) (in0 : sd0.In N) (in1 : sd1.In N) (hN : N ≤ 1000000) (hlif : lif < 4294967296) (hri : Rises LL) (hnm : ∀ x ∈ LL, x.1.length ≤ 255) (hvl : ∀ x ∈ LL, x.2.length ≤ 262144) (hct : LL.length ≤ 900000) (hS : Sat w w [lgA b g0 g1 ⟨1, lif, LL, ded⟩, sdA g0 sd0, sdA g1 sd1, rest w G]) : Calls Try.prog 13 #[pt b 0] w fun e w' => e = .returned (.int .i64 (compT ⟨⟨1, lif, LL, ded⟩, sd0, sd1⟩).1) ∧ Sat w w' [lgA b g0 g1 (compT ⟨⟨1, lif, LL, ded⟩, sd0, sd1⟩).2.lb, sdA g0 (compT ⟨⟨1, lif, LL, ded⟩, sd0, sd1⟩).2.s0, sdA g1 (compT ⟨⟨1, lif, LL, ded⟩, sd0, sd1⟩).2.s1, rest w G] := by
 refine enter 100 Try.func13 rfl rfl rfl fun a F => ?_
 obtain ⟨r, ck, es, rs, hok, S⟩ := lg_open hS
 have S : Sat w w [rest w G, sdA g0 sd0, sdA g1 sd1, box b 70 [pt g0 0, pt g1 0, .int .i64 1, .int .u32 (lif : Nat), .map (some r), .int .i64 ded], smapA r (es.map LEnt.e) ck, bag rs] := S
 dsimp only at hok
 have hb5 := be4_len (lif + 1)
 have hb4 : (([] : List UInt8) ++ be4 (lif + 1)).length = 4 := rfl
 have hnm1 := prP_len (lif := lif) hnm hvl
 have hal := allP_len (lif := lif + 1) hnm hvl
 refine s_reg ?_
 refine l_pk 1 (fun L => (2, .int .i64 0) :: L) F fun a F => ?_
 refine l_then ?_
 refine wp_seq ?_
 refine s_reg ?_
 refine l_pk 1 (fun L => (11, pt b 0) :: L) F fun a F => ?_
 obtain ⟨G9, g9, hin9, hlt9, k9⟩ := S.frameB [3] (by decide) rfl
 refine l_do F rfl rfl (op_fn F (by kernel_rfl) (lup_any _ G9 b (pt g0 0) (pt g1 0) (.int .i64 1) (.int .u32 (lif : Nat)) (.map (some r)) ded g9) ?_)
 rintro e z9 ⟨rfl, g⟩
 have S : Sat w z9 [rest w G, sdA g0 sd0, sdA g1 sd1, box b 70 [pt g0 0, pt g1 0, .int .i64 1, .int .u32 (lif : Nat), .map (some r), .int .i64 ded], smapA r (es.map LEnt.e) ck, bag rs] := k9 z9 [box b 70 [pt g0 0, pt g1 0, .int .i64 1, .int .u32 (lif : Nat), .map (some r), .int .i64 ded]] rfl g
 clear g g9 k9 hin9 hlt9
 refine ⟨_, rfl, ?_⟩
 intro a F
 refine l_pk 1 (fun L => (3, .int .i64 ded) :: L) F fun a F => ?_
 refine l_then ?_
 refine s_reg ?_
 refine l_pk 1 (fun L => (13, .int .i64 ded) :: L) F fun a F => ?_
 by_cases ht1 : (ded : Int) = (0 : Int)
 ·
  refine l_do F rfl rfl (op_pk F (v0 := .bool ((ded : Int) != (0 : Int))) (v := .bool false) (neqF ht1) fun a F => ?_)
  refine l_then ?_
  refine c_f F rfl ?_
  refine wp_skip ?_
  refine then_n ?_
  refine wp_seq ?_
  refine s_reg ?_
  refine l_pk 3 (fun L => (18, pt b 3) :: (17, pt b 0) :: (16, pt b 0) :: L) F fun a F => ?_
  refine l_do F rfl rfl (op_ldk (some ⟨b, 0, none⟩) 3 (.int .u32 (lif : Nat)) F rfl (cBox S 3 rfl (j := 3) rfl) (fun a F => ?_))
  by_cases ht2 : ((lif : Nat) : Int) = (4294967295 : Int)
  ·
   refine l_do F rfl rfl (op_pk F (v0 := .bool (((lif : Nat) : Int) == (4294967295 : Int))) (v := .bool true) (eqlT ht2) fun a F => ?_)
   refine l_then ?_
   refine c_t F rfl ?_
   refine s_reg ?_
   refine l_pk 1 (fun L => (2, .int .i64 8) :: L) F fun a F => ?_
   refine l_then ?_
   refine wp_ret ?_
   refine then_r (?_)
   exact fin F [.tmp 2] [.int .i64 8] rfl ⟨by kernel_rfl, trivial⟩ (.int .i64 8) rfl ⟨by rw [comp_last ht1 (by omega)], by rw [comp_last ht1 (by omega)]; exact (lg_shut hok (S.pick [0, 1, 2, 3, 4, 5] (by decide)))⟩
  refine l_do F rfl rfl (op_pk F (v0 := .bool (((lif : Nat) : Int) == (4294967295 : Int))) (v := .bool false) (eqlF ht2) fun a F => ?_)
  refine l_then ?_
  refine c_f F rfl ?_
  refine wp_skip ?_
  refine then_n ?_
  refine s_reg ?_
  refine l_do F rfl rfl (op_buildSlice S _ 0 _ 5 1 yC ([] : List UInt8) F rfl (by kernel_rfl) (by kernel_rfl) (by kernel_rfl) (by unfold maxLen; omega) fun b3 z S a F => ?_)
  refine l_pk 3 (fun L => (24, pt b 3) :: (23, pt b 0) :: (22, pt b 0) :: L) F fun a F => ?_
  refine l_do F rfl rfl (op_ldk (some ⟨b, 0, none⟩) 3 (.int .u32 (lif : Nat)) F rfl (cBox S 3 rfl (j := 3) rfl) (fun a F => ?_))
  refine l_do F rfl rfl (op_pk F (v0 := .int .u32 (IntKind.wrap .u32 ((lif : Nat) + 1))) (v := .int .u32 (lif + 1 : Nat)) (wrn_u32 (by omega) (by omega) (by omega)) fun a F => ?_)
  refine l_do F rfl rfl (op_buildSlice S _ 1 _ 30 1 nC ([lif + 1] : List Nat) F rfl (by kernel_rfl) (by kernel_rfl) (by kernel_rfl) (by unfold maxLen; omega) fun b4 z S a F => ?_)
  obtain ⟨G9, g9, hin9, hlt9, k9⟩ := S.frameB [6, 7] (by decide) rfl
  refine l_do F rfl rfl (op_fn F (by kernel_rfl) (ofour_any _ G9 (some ⟨b3, 0, none⟩) 0 ([] : List UInt8) (by simp) (some ⟨b4, 0, none⟩) 1 (lif + 1) (by omega) g9) ?_)
  rintro e z9 ⟨An, cn, rfl, g⟩
  have S : Sat w z9 [rest w G, sdA g0 sd0, sdA g1 sd1, box b 70 [pt g0 0, pt g1 0, .int .i64 1, .int .u32 (lif : Nat), .map (some r), .int .i64 ded], smapA r (es.map LEnt.e) ck, bag rs, row 5 1 (.slice An ((([] : List UInt8) ++ be4 (lif + 1)).length) cn) ((([] : List UInt8) ++ be4 (lif + 1)).length) ((([] : List UInt8) ++ be4 (lif + 1)).flatMap yC), row 30 1 (.slice (some ⟨b4, 0, none⟩) 1 1) 1 (([lif + 1] : List Nat).flatMap nC)] := k9 z9 [row 5 1 (.slice An ((([] : List UInt8) ++ be4 (lif + 1)).length) cn) ((([] : List UInt8) ++ be4 (lif + 1)).length) ((([] : List UInt8) ++ be4 (lif + 1)).flatMap yC), row 30 1 (.slice (some ⟨b4, 0, none⟩) 1 1) 1 (([lif + 1] : List Nat).flatMap nC)] rfl g
  clear g g9 k9 hin9 hlt9
  refine ⟨_, rfl, ?_⟩
  intro a F
  refine l_do F rfl rfl (op_fn F (by kernel_rfl) (record_any _ 1 ([] : Bs) (by first | omega | (simp only [List.length_nil]; omega)) An cn (be4 (lif + 1)) (Recs.ofRow (S.rowOf (i := 6) rfl) (by omega)) (by first | omega | (simp [be4] <;> omega))) ?_)
  rintro e z ⟨Ar1, cr1, rfl, g⟩
  have S := S.pushThings g
  refine ⟨_, rfl, ?_⟩
  intro a F
  refine l_do F rfl rfl (op_alloc S _ (.slice none 0 0) rfl (by kernel_rfl) fun b5 z S a F => ?_)
  refine l_do F rfl rfl (op_storeB S 9 _ _ _ b5 0 (.slice Ar1 ((recP 1 ([] : Bs) (be4 (lif + 1))).length) cr1) F rfl rfl (by kernel_rfl) (by kernel_rfl) (by kernel_rfl) (by kernel_rfl) (by kernel_rfl) fun z S a F => ?_)
  refine l_then ?_
  refine wp_seq ?_
  refine s_reg ?_
  refine l_pk 3 (fun L => (32, pt b 4) :: (31, pt b 0) :: (30, pt b 0) :: L) F fun a F => ?_
  refine l_do F rfl rfl (op_ldk (some ⟨b, 0, none⟩) 4 (.map (some r)) F rfl (cBox S 3 rfl (j := 4) rfl) (fun a F => ?_))
  refine l_do F rfl rfl (op_fn F (by kernel_rfl) (mkeys_sat S r) ?_)
  rintro e z ⟨qk, rfl, S⟩
  refine ⟨_, rfl, ?_⟩
  intro a F
  refine l_do F rfl rfl (op_fn F (by kernel_rfl) (sorted_at S (i := 4) (j := 10) rfl rfl hok.ok (has_keys hok hri)) ?_)
  rintro e z ⟨Ak, cks, rfl, S⟩
  refine ⟨_, rfl, ?_⟩
  intro a F
  refine l_pk 2 (fun L => (37, .int .i64 0) :: (36, .int .i64 ((nmsP LL).length : Nat)) :: L) F fun a F => ?_
  refine l_then ?_
  refine wp_block ?_
  rw [prP_zero lif LL] at S
  refine wp_loop_m (fun m a z => ∃ (jj : Nat) (Ap : Option Addr) (cp : Nat), m = LL.length - jj ∧ (jj ≤ LL.length) ∧ Fr a 100 [(0, pt b 0), (4, pt b5 0), (35, .slice Ak ((nmsP LL).length) cks), (36, .int .i64 ((nmsP LL).length : Nat)), (37, .int .i64 (jj : Nat))] ∧ Sat w z [rest w G, sdA g0 sd0, sdA g1 sd1, box b 70 [pt g0 0, pt g1 0, .int .i64 1, .int .u32 (lif : Nat), .map (some r), .int .i64 ded], smapA r (es.map LEnt.e) ck, bag rs, row 5 1 (.slice An ((([] : List UInt8) ++ be4 (lif + 1)).length) cn) ((([] : List UInt8) ++ be4 (lif + 1)).length) ((([] : List UInt8) ++ be4 (lif + 1)).flatMap yC), row 30 1 (.slice (some ⟨b4, 0, none⟩) 1 1) 1 (([lif + 1] : List Nat).flatMap nC), row 5 1 (.slice Ap ((prP lif LL jj).length) cp) ((prP lif LL jj).length) ((prP lif LL jj).flatMap yC), box b5 36 [.slice Ap ((prP lif LL jj).length) cp], box qk 68 [.map (some r)], row 9 1 (.slice Ak ((nmsP LL).length) cks) ((nmsP LL).length) ((nmsP LL).flatMap sC)]) _ ⟨0, Ar1, cr1, rfl, Nat.zero_le _, F.subk, (S.pick [0, 1, 2, 3, 4, 5, 6, 7, 8, 9, 10, 11] (by decide))⟩ ?_
  rintro m a z ⟨jj, Ap, cp, hm, hf6, F, S⟩
  refine s_reg ?_
  by_cases ht7 : ((jj : Nat) : Int) < (((nmsP LL).length : Nat) : Int)
  ·
   have hlm := nmsP_len LL
   obtain ⟨y, hy⟩ : ∃ y, LL[jj]? = some y := ⟨_, List.getElem?_eq_getElem (by omega)⟩
   have hyl := recP_len 2 y.1 y.2
   have hy1 := hnm y (List.mem_of_getElem? hy)
   have hy2 := hvl y (List.mem_of_getElem? hy)
   have hpj := hnm1 jj
   obtain ⟨Av, cv, hgt, hgr⟩ := has_some hok (rises_at hri hy)
   refine l_do F rfl rfl (op_pk F (v0 := .bool (decide (((jj : Nat) : Int) < (((nmsP LL).length : Nat) : Int)))) (v := .bool true) (lssT ht7) fun a F => ?_)
   refine l_then ?_
   refine wp_seq ?_
   refine c_t F rfl ?_
   refine wp_skip ?_
   refine then_n ?_
   refine wp_seq ?_
   refine wp_block ?_
   refine s_reg ?_
   refine l_do F rfl rfl (op_index _ 9 _ _ Ak ((nmsP LL).length) cks jj 1 .i64 F rfl (by kernel_rfl) (by kernel_rfl) (by kernel_rfl) (by kernel_rfl) (get_lt (names_at hy)) (row_some S 11 rfl (m := jj) (get_lt (names_at hy))) (fun a F => ?_))
   refine l_do F rfl rfl (op_ldk Ak (jj * 1) (strV y.1) F rfl (cRec S 11 sC_len rfl 0 (names_at hy) rfl) (fun a F => ?_))
   refine l_pk 1 (fun L => (6, strV y.1) :: L) F fun a F => ?_
   refine l_then ?_
   have hn8 : Option.isSome Ak = true := (row_some S 11 rfl (m := jj) (get_lt (names_at hy)))
   have S := S.pushEmp
   refine region_gx (fun D => fun ((Ar2, cr2, A9, c10) : Option Addr × Nat × Option Addr × Nat) => [rest w G, sdA g0 sd0, sdA g1 sd1, box b 70 [pt g0 0, pt g1 0, .int .i64 1, .int .u32 (lif : Nat), .map (some r), .int .i64 ded], smapA r (es.map LEnt.e) ck, bag rs, row 5 1 (.slice An ((([] : List UInt8) ++ be4 (lif + 1)).length) cn) ((([] : List UInt8) ++ be4 (lif + 1)).length) ((([] : List UInt8) ++ be4 (lif + 1)).flatMap yC), row 30 1 (.slice (some ⟨b4, 0, none⟩) 1 1) 1 (([lif + 1] : List Nat).flatMap nC), bif D 9 then row 5 1 (.slice A9 (((prP lif LL jj) ++ (recP 2 y.1 y.2)).length) c10) (((prP lif LL jj) ++ (recP 2 y.1 y.2)).length) (((prP lif LL jj) ++ (recP 2 y.1 y.2)).flatMap yC) else row 5 1 (.slice Ap ((prP lif LL jj).length) cp) ((prP lif LL jj).length) ((prP lif LL jj).flatMap yC), bif D 10 then box b5 36 [.slice A9 (((prP lif LL jj) ++ (recP 2 y.1 y.2)).length) c10] else box b5 36 [.slice Ap ((prP lif LL jj).length) cp], box qk 68 [.map (some r)], row 9 1 (.slice Ak ((nmsP LL).length) cks) ((nmsP LL).length) ((nmsP LL).flatMap sC), bif D 8 then row 5 1 (.slice Ar2 ((recP 2 y.1 y.2).length) cr2) ((recP 2 y.1 y.2).length) ((recP 2 y.1 y.2).flatMap yC) else emp]) (fun ((Ar2, cr2, A9, c10) : Option Addr × Nat × Option Addr × Nat) => [.slice Ap ((prP lif LL jj).length) cp, strV y.1, pt b 0, pt b 0, pt b 4, .map (some r), strV y.1, .slice Av y.2.length cv, .slice Ar2 ((recP 2 y.1 y.2).length) cr2, .slice A9 (((prP lif LL jj) ++ (recP 2 y.1 y.2)).length) c10, undef]) [(0, [], [9, 10]), (5, [], [7, 8, 9, 10]), (7, [5], [8, 9, 10]), (8, [5, 7], [9, 10]), (9, [0, 5, 7, 8], [10]), (10, [0, 5, 7, 8, 9], [])] (none, 0, none, 0) rfl (by kernel_rfl) (by kernel_rfl) F S.drew ?_ ?_ ?_ ?_ ?_
   · rintro ⟨Ar2, cr2, A9, c10⟩; rfl
   · rintro ⟨Ar2, cr2, A9, c10⟩; kernel_rfl
   ·
    intro D D' x h
    obtain ⟨Ar2, cr2, A9, c10⟩ := x
    simp only [h 8 (by decide), h 9 (by decide), h 10 (by decide)]
   ·
    refine ⟨?_, ?_⟩
    ·
     refine ⟨_, rfl, rfl, by kernel_rfl, ?_⟩
     rintro D ⟨Ar2, cr2, A9, c10⟩ a z S F
     refine ⟨by kernel_rfl, ?_⟩
     exact op_ldk (some ⟨b5, 0, none⟩) 0 (.slice Ap ((prP lif LL jj).length) cp) F rfl (cBox S 9 rfl (j := 0) rfl) (⟨(Ar2, cr2, A9, c10), rfl, (SameB.refl _ _ rfl), S⟩)
    refine ⟨?_, ?_⟩
    ·
     refine ⟨_, rfl, rfl, by kernel_rfl, ?_⟩
     rintro D ⟨Ar2, cr2, A9, c10⟩ a z S F
     refine ⟨by kernel_rfl, ?_⟩
     exact op_ldk (some ⟨b, 0, none⟩) 4 (.map (some r)) F rfl (cBox S 3 rfl (j := 4) rfl) (⟨(Ar2, cr2, A9, c10), rfl, (SameB.refl _ _ rfl), S⟩)
    refine ⟨?_, ?_⟩
    ·
     refine ⟨_, rfl, rfl, by kernel_rfl, ?_⟩
     rintro D ⟨Ar2, cr2, A9, c10⟩ a z S F
     refine ⟨by kernel_rfl, ?_⟩
     exact op_slookup S 4 _ 9 36 _ _ false (.slice none 0 0) y.1 (.slice Av y.2.length cv) F rfl rfl (by kernel_rfl) (by kernel_rfl) (by kernel_rfl) (by kernel_rfl) (by kernel_rfl) (by rw [hgt]; rfl) (⟨(Ar2, cr2, A9, c10), rfl, (SameB.refl _ _ rfl), S⟩)
    refine ⟨?_, ?_⟩
    ·
     refine ⟨_, rfl, rfl, by kernel_rfl, ?_⟩
     rintro D ⟨Ar2, cr2, A9, c10⟩ a z S F
     refine ⟨by kernel_rfl, ?_⟩
     refine op_fn F (by kernel_rfl) (record_any _ 2 y.1 (by first | omega | (simp only [List.length_nil]; omega)) Av cv y.2 (bag_recs S (i := 5) rfl hgr (by omega)) (by first | omega | (simp [be4] <;> omega))) ?_
     rintro e z ⟨y11, y12, rfl, g⟩
     have S := S.fillThing 12 rfl g
     exact ⟨_, rfl, (y11, y12, A9, c10), rfl, ⟨rfl, rfl, rfl, rfl, rfl, rfl, rfl, rfl, trivial, trivial, trivial, trivial⟩, S⟩
    refine ⟨?_, ?_⟩
    ·
     refine ⟨_, rfl, rfl, by kernel_rfl, ?_⟩
     rintro D ⟨Ar2, cr2, A9, c10⟩ a z S F
     refine ⟨by kernel_rfl, ?_⟩
     exact op_append S 8 _ _ _ 5 (.int .u8 0) 1 1 (prP lif LL jj) (recP 2 y.1 y.2) yC Ar2 cr2 F yC_len (fun _ => rfl) rfl rfl (by kernel_rfl) (by kernel_rfl) rfl rfl rfl (by kernel_rfl) (by kernel_rfl) (row_none (S.rowOf (i := 12) rfl)) (src_row (S.rowOf (i := 12) rfl)) (by first | omega | (simp [be4] <;> omega)) fun y13 y14 z S => ⟨(Ar2, cr2, y13, y14), rfl, ⟨rfl, rfl, rfl, rfl, rfl, rfl, rfl, rfl, rfl, trivial, trivial, trivial⟩, S⟩
    refine ⟨?_, ?_⟩
    ·
     refine ⟨_, rfl, rfl, by kernel_rfl, ?_⟩
     rintro D ⟨Ar2, cr2, A9, c10⟩ a z S F
     refine ⟨by kernel_rfl, ?_⟩
     exact op_storeB S 9 _ _ _ b5 0 (.slice A9 (((prP lif LL jj) ++ (recP 2 y.1 y.2)).length) c10) F rfl rfl (by kernel_rfl) (by kernel_rfl) (by kernel_rfl) (by kernel_rfl) (by kernel_rfl) fun z S => ⟨(Ar2, cr2, A9, c10), rfl, (SameB.refl _ _ rfl), S⟩
    trivial
   rintro ⟨Ar2, cr2, A9, c10⟩ a z F S
   have F := F.subk (l := [(0, pt b 0), (4, pt b5 0), (35, .slice Ak ((nmsP LL).length) cks), (36, .int .i64 ((nmsP LL).length : Nat)), (37, .int .i64 (jj : Nat))])
   have S : Sat w z [rest w G, sdA g0 sd0, sdA g1 sd1, box b 70 [pt g0 0, pt g1 0, .int .i64 1, .int .u32 (lif : Nat), .map (some r), .int .i64 ded], smapA r (es.map LEnt.e) ck, bag rs, row 5 1 (.slice An ((([] : List UInt8) ++ be4 (lif + 1)).length) cn) ((([] : List UInt8) ++ be4 (lif + 1)).length) ((([] : List UInt8) ++ be4 (lif + 1)).flatMap yC), row 30 1 (.slice (some ⟨b4, 0, none⟩) 1 1) 1 (([lif + 1] : List Nat).flatMap nC), row 5 1 (.slice A9 (((prP lif LL jj) ++ (recP 2 y.1 y.2)).length) c10) (((prP lif LL jj) ++ (recP 2 y.1 y.2)).length) (((prP lif LL jj) ++ (recP 2 y.1 y.2)).flatMap yC), box b5 36 [.slice A9 (((prP lif LL jj) ++ (recP 2 y.1 y.2)).length) c10], box qk 68 [.map (some r)], row 9 1 (.slice Ak ((nmsP LL).length) cks) ((nmsP LL).length) ((nmsP LL).flatMap sC), row 5 1 (.slice Ar2 ((recP 2 y.1 y.2).length) cr2) ((recP 2 y.1 y.2).length) ((recP 2 y.1 y.2).flatMap yC)] := S
   refine inb_n ?_
   refine then_n ?_
   refine wp_region_list ?_
   refine l_do F rfl rfl (op_pk F (v0 := .int .i64 (IntKind.wrap .i64 ((jj : Nat) + 1))) (v := .int .i64 (jj + 1 : Nat)) (wrn_i64 (by omega) (by omega) (by omega)) fun a F => ?_)
   refine l_pk 1 (fun L => (37, .int .i64 (jj + 1 : Nat)) :: L) F fun a F => ?_
   refine l_then ?_
   have ex := prP_succ (lif := lif) hy
   rw [ex] at S
   exact ⟨_, (by omega), (jj + 1), A9, c10, rfl, (by omega), F.subk, (S.pick [0, 1, 2, 3, 4, 5, 6, 7, 8, 9, 10, 11] (by decide))⟩
  have hlm := nmsP_len LL
  have hje : jj = LL.length := by omega
  have hpj := hnm1 jj
  have h4l := recP_len 4 [] []
  rw [List.length_nil] at h4l
  refine l_do F rfl rfl (op_pk F (v0 := .bool (decide (((jj : Nat) : Int) < (((nmsP LL).length : Nat) : Int)))) (v := .bool false) (lssF ht7) fun a F => ?_)
  refine l_then ?_
  refine wp_seq ?_
  refine c_f F rfl ?_
  refine wp_exit ?_
  refine then_x ?_
  refine then_x ?_
  refine inb_x ?_
  refine then_n ?_
  refine wp_seq ?_
  have S := S.pushEmp
  refine region_gx (fun D => fun ((Ar4, cr4, A15, c16) : Option Addr × Nat × Option Addr × Nat) => [rest w G, sdA g0 sd0, sdA g1 sd1, box b 70 [pt g0 0, pt g1 0, .int .i64 1, .int .u32 (lif : Nat), .map (some r), .int .i64 ded], smapA r (es.map LEnt.e) ck, bag rs, row 5 1 (.slice An ((([] : List UInt8) ++ be4 (lif + 1)).length) cn) ((([] : List UInt8) ++ be4 (lif + 1)).length) ((([] : List UInt8) ++ be4 (lif + 1)).flatMap yC), row 30 1 (.slice (some ⟨b4, 0, none⟩) 1 1) 1 (([lif + 1] : List Nat).flatMap nC), bif D 2 then row 5 1 (.slice A15 (((prP lif LL jj) ++ (recP 4 ([] : Bs) [])).length) c16) (((prP lif LL jj) ++ (recP 4 ([] : Bs) [])).length) (((prP lif LL jj) ++ (recP 4 ([] : Bs) [])).flatMap yC) else row 5 1 (.slice Ap ((prP lif LL jj).length) cp) ((prP lif LL jj).length) ((prP lif LL jj).flatMap yC), bif D 3 then box b5 36 [.slice A15 (((prP lif LL jj) ++ (recP 4 ([] : Bs) [])).length) c16] else box b5 36 [.slice Ap ((prP lif LL jj).length) cp], box qk 68 [.map (some r)], row 9 1 (.slice Ak ((nmsP LL).length) cks) ((nmsP LL).length) ((nmsP LL).flatMap sC), bif D 1 then row 5 1 (.slice Ar4 ((recP 4 ([] : Bs) []).length) cr4) ((recP 4 ([] : Bs) []).length) ((recP 4 ([] : Bs) []).flatMap yC) else emp]) (fun ((Ar4, cr4, A15, c16) : Option Addr × Nat × Option Addr × Nat) => [.slice Ap ((prP lif LL jj).length) cp, .slice Ar4 ((recP 4 ([] : Bs) []).length) cr4, .slice A15 (((prP lif LL jj) ++ (recP 4 ([] : Bs) [])).length) c16, undef]) [(0, [], [2, 3]), (1, [], [2, 3]), (2, [0, 1], [3]), (3, [0, 1, 2], [])] (none, 0, none, 0) rfl (by kernel_rfl) (by kernel_rfl) F S.drew ?_ ?_ ?_ ?_ ?_
  · rintro ⟨Ar4, cr4, A15, c16⟩; rfl
  · rintro ⟨Ar4, cr4, A15, c16⟩; kernel_rfl
  ·
   intro D D' x h
   obtain ⟨Ar4, cr4, A15, c16⟩ := x
   simp only [h 1 (by decide), h 2 (by decide), h 3 (by decide)]
  ·
   refine ⟨?_, ?_⟩
   ·
    refine ⟨_, rfl, rfl, by kernel_rfl, ?_⟩
    rintro D ⟨Ar4, cr4, A15, c16⟩ a z S F
    refine ⟨by kernel_rfl, ?_⟩
    exact op_ldk (some ⟨b5, 0, none⟩) 0 (.slice Ap ((prP lif LL jj).length) cp) F rfl (cBox S 9 rfl (j := 0) rfl) (⟨(Ar4, cr4, A15, c16), rfl, (SameB.refl _ _ rfl), S⟩)
   refine ⟨?_, ?_⟩
   ·
    refine ⟨_, rfl, rfl, by kernel_rfl, ?_⟩
    rintro D ⟨Ar4, cr4, A15, c16⟩ a z S F
    refine ⟨by kernel_rfl, ?_⟩
    refine op_fn F (by kernel_rfl) (record_any _ 4 ([] : Bs) (by first | omega | (simp only [List.length_nil]; omega)) none 0 [] recs_nil (by first | omega | (simp [be4] <;> omega))) ?_
    rintro e z ⟨y17, y18, rfl, g⟩
    have S := S.fillThing 12 rfl g
    exact ⟨_, rfl, (y17, y18, A15, c16), rfl, ⟨rfl, trivial, trivial, trivial, trivial⟩, S⟩
   refine ⟨?_, ?_⟩
   ·
    refine ⟨_, rfl, rfl, by kernel_rfl, ?_⟩
    rintro D ⟨Ar4, cr4, A15, c16⟩ a z S F
    refine ⟨by kernel_rfl, ?_⟩
    exact op_append S 8 _ _ _ 5 (.int .u8 0) 1 1 (prP lif LL jj) (recP 4 ([] : Bs) []) yC Ar4 cr4 F yC_len (fun _ => rfl) rfl rfl (by kernel_rfl) (by kernel_rfl) rfl rfl rfl (by kernel_rfl) (by kernel_rfl) (row_none (S.rowOf (i := 12) rfl)) (src_row (S.rowOf (i := 12) rfl)) (by first | omega | (simp [be4] <;> omega)) fun y19 y20 z S => ⟨(Ar4, cr4, y19, y20), rfl, ⟨rfl, rfl, trivial, trivial, trivial⟩, S⟩
   refine ⟨?_, ?_⟩
   ·
    refine ⟨_, rfl, rfl, by kernel_rfl, ?_⟩
    rintro D ⟨Ar4, cr4, A15, c16⟩ a z S F
    refine ⟨by kernel_rfl, ?_⟩
    exact op_storeB S 9 _ _ _ b5 0 (.slice A15 (((prP lif LL jj) ++ (recP 4 ([] : Bs) [])).length) c16) F rfl rfl (by kernel_rfl) (by kernel_rfl) (by kernel_rfl) (by kernel_rfl) (by kernel_rfl) fun z S => ⟨(Ar4, cr4, A15, c16), rfl, (SameB.refl _ _ rfl), S⟩
   trivial
  rintro ⟨Ar4, cr4, A15, c16⟩ a z F S
  have F := F.subk (l := [(0, pt b 0), (4, pt b5 0)])
  have S : Sat w z [rest w G, sdA g0 sd0, sdA g1 sd1, box b 70 [pt g0 0, pt g1 0, .int .i64 1, .int .u32 (lif : Nat), .map (some r), .int .i64 ded], smapA r (es.map LEnt.e) ck, bag rs, row 5 1 (.slice An ((([] : List UInt8) ++ be4 (lif + 1)).length) cn) ((([] : List UInt8) ++ be4 (lif + 1)).length) ((([] : List UInt8) ++ be4 (lif + 1)).flatMap yC), row 30 1 (.slice (some ⟨b4, 0, none⟩) 1 1) 1 (([lif + 1] : List Nat).flatMap nC), row 5 1 (.slice A15 (((prP lif LL jj) ++ (recP 4 ([] : Bs) [])).length) c16) (((prP lif LL jj) ++ (recP 4 ([] : Bs) [])).length) (((prP lif LL jj) ++ (recP 4 ([] : Bs) [])).flatMap yC), box b5 36 [.slice A15 (((prP lif LL jj) ++ (recP 4 ([] : Bs) [])).length) c16], box qk 68 [.map (some r)], row 9 1 (.slice Ak ((nmsP LL).length) cks) ((nmsP LL).length) ((nmsP LL).flatMap sC), row 5 1 (.slice Ar4 ((recP 4 ([] : Bs) []).length) cr4) ((recP 4 ([] : Bs) []).length) ((recP 4 ([] : Bs) []).flatMap yC)] := S
  rw [prP_end hje] at S
  refine then_n ?_
  refine wp_seq ?_
  have S := S.pushEmp
  refine region_gx (fun D => fun (b21 : Nat) => [rest w G, sdA g0 sd0, sdA g1 sd1, box b 70 [pt g0 0, pt g1 0, .int .i64 1, .int .u32 (lif : Nat), .map (some r), .int .i64 ded], smapA r (es.map LEnt.e) ck, bag rs, row 5 1 (.slice An ((([] : List UInt8) ++ be4 (lif + 1)).length) cn) ((([] : List UInt8) ++ be4 (lif + 1)).length) ((([] : List UInt8) ++ be4 (lif + 1)).flatMap yC), row 30 1 (.slice (some ⟨b4, 0, none⟩) 1 1) 1 (([lif + 1] : List Nat).flatMap nC), row 5 1 (.slice A15 ((allP (lif + 1) LL).length) c16) ((allP (lif + 1) LL).length) ((allP (lif + 1) LL).flatMap yC), box b5 36 [.slice A15 ((allP (lif + 1) LL).length) c16], box qk 68 [.map (some r)], row 9 1 (.slice Ak ((nmsP LL).length) cks) ((nmsP LL).length) ((nmsP LL).flatMap sC), row 5 1 (.slice Ar4 ((recP 4 ([] : Bs) []).length) cr4) ((recP 4 ([] : Bs) []).length) ((recP 4 ([] : Bs) []).flatMap yC), bif D 11 then box b21 23 [pt g0 0] else (bif D 10 then box b21 23 [.pointer none] else emp)]) (fun (b21 : Nat) => [pt b 0, pt b 0, pt b 0, pt b 2, .int .i64 1, .int .i64 0, pt b 0, pt b 0, pt b 0, pt g0 0, pt b21 0, undef]) [(4, [], [9, 11]), (9, [4], [11]), (10, [], [11]), (11, [4, 9, 10], [])] 0 rfl (by kernel_rfl) (by kernel_rfl) F S.drew ?_ ?_ ?_ ?_ ?_
  · rintro b21; rfl
  · rintro b21; kernel_rfl
  ·
   intro D D' x h
   obtain b21 := x
   simp only [h 10 (by decide), h 11 (by decide)]
  ·
   refine ⟨?_, ?_⟩
   ·
    refine ⟨_, rfl, rfl, by kernel_rfl, ?_⟩
    rintro D b21 a z S F
    refine ⟨by kernel_rfl, ?_⟩
    exact op_ldk (some ⟨b, 0, none⟩) 2 (.int .i64 1) F rfl (cBox S 3 rfl (j := 2) rfl) (⟨b21, rfl, (SameB.refl _ _ rfl), S⟩)
   refine ⟨?_, ?_⟩
   ·
    refine ⟨_, rfl, rfl, by kernel_rfl, ?_⟩
    rintro D b21 a z S F
    refine ⟨by kernel_rfl, ?_⟩
    exact op_ldk (some ⟨b, 0, none⟩) 0 (pt g0 0) F rfl (cBox S 3 rfl (j := 0) rfl) (⟨b21, rfl, (SameB.refl _ _ rfl), S⟩)
   refine ⟨?_, ?_⟩
   ·
    refine ⟨_, rfl, rfl, by kernel_rfl, ?_⟩
    rintro D b21 a z S F
    refine ⟨by kernel_rfl, ?_⟩
    exact op_allocF S 13 rfl _ (.pointer none) rfl (by kernel_rfl) fun y22 z S => ⟨y22, rfl, ⟨rfl, rfl, rfl, rfl, rfl, rfl, rfl, rfl, rfl, rfl, trivial, trivial, trivial⟩, S⟩
   refine ⟨?_, ?_⟩
   ·
    refine ⟨_, rfl, rfl, by kernel_rfl, ?_⟩
    rintro D b21 a z S F
    refine ⟨by kernel_rfl, ?_⟩
    exact op_storeB S 13 _ _ _ b21 0 (pt g0 0) F rfl rfl (by kernel_rfl) (by kernel_rfl) (by kernel_rfl) (by kernel_rfl) (by kernel_rfl) fun z S => ⟨b21, rfl, (SameB.refl _ _ rfl), S⟩
   trivial
  rintro b21 a z F S
  have F := F.subk (l := [(0, pt b 0), (4, pt b5 0), (7, pt b21 0)])
  have S : Sat w z [rest w G, sdA g0 sd0, sdA g1 sd1, box b 70 [pt g0 0, pt g1 0, .int .i64 1, .int .u32 (lif : Nat), .map (some r), .int .i64 ded], smapA r (es.map LEnt.e) ck, bag rs, row 5 1 (.slice An ((([] : List UInt8) ++ be4 (lif + 1)).length) cn) ((([] : List UInt8) ++ be4 (lif + 1)).length) ((([] : List UInt8) ++ be4 (lif + 1)).flatMap yC), row 30 1 (.slice (some ⟨b4, 0, none⟩) 1 1) 1 (([lif + 1] : List Nat).flatMap nC), row 5 1 (.slice A15 ((allP (lif + 1) LL).length) c16) ((allP (lif + 1) LL).length) ((allP (lif + 1) LL).flatMap yC), box b5 36 [.slice A15 ((allP (lif + 1) LL).length) c16], box qk 68 [.map (some r)], row 9 1 (.slice Ak ((nmsP LL).length) cks) ((nmsP LL).length) ((nmsP LL).flatMap sC), row 5 1 (.slice Ar4 ((recP 4 ([] : Bs) []).length) cr4) ((recP 4 ([] : Bs) []).length) ((recP 4 ([] : Bs) []).flatMap yC), box b21 23 [pt g0 0]] := S
  refine then_n ?_
  refine wp_seq ?_
  refine s_reg ?_
  refine l_do F rfl rfl (op_ldk (some ⟨b21, 0, none⟩) 0 (pt g0 0) F rfl (cBox S 13 rfl (j := 0) rfl) (fun a F => ?_))
  refine l_pk 2 (fun L => (67, .func (.func 42) #[] #[pt b21 0, pt b5 0]) :: (66, .func (.func 41) #[pt g0 0] #[]) :: L) F fun a F => ?_
  refine l_do F rfl rfl (op_ldk (some ⟨b21, 0, none⟩) 0 (pt g0 0) F rfl (cBox S 13 rfl (j := 0) rfl) (fun a F => ?_))
  refine l_pk 1 (fun L => (69, .func (.func 37) #[pt g0 0] #[]) :: L) F fun a F => ?_
  refine l_do F rfl rfl (op_buildSlice S _ 3 _ 39 1 vC ([(.func (.func 41) #[pt g0 0] #[]), (.func (.func 42) #[] #[pt b21 0, pt b5 0]), (.func (.func 37) #[pt g0 0] #[])] : List Value) F rfl (by kernel_rfl) (by kernel_rfl) (by kernel_rfl) (by unfold maxLen; omega) fun b23 z S a F => ?_)
  refine l_pk 2 (fun L => (72, .int .i64 0) :: (71, .int .i64 3) :: L) F fun a F => ?_
  refine l_then ?_
  refine wp_block ?_
  refine wp_loop_rounds 4 (rnd ?_)
  refine s_reg ?_
  refine l_pk 1 (fun L => (73, .bool true) :: L) F fun a F => ?_
  refine l_then ?_
  refine wp_seq ?_
  refine c_t F rfl ?_
  refine wp_skip ?_
  refine then_n ?_
  refine wp_seq ?_
  refine wp_block ?_
  refine s_reg ?_
  refine l_do F rfl rfl (op_index _ 39 _ _ (some ⟨b23, 0, none⟩) 3 3 0 1 .i64 F rfl (by kernel_rfl) (by kernel_rfl) (by kernel_rfl) (by kernel_rfl) (by decide) rfl (fun a F => ?_))
  refine l_do F rfl rfl (op_ldk (some ⟨b23, 0, none⟩) (0 * 1) (.func (.func 41) #[pt g0 0] #[]) F rfl (cRec S 14 vC_len rfl 0 (show ([(.func (.func 41) #[pt g0 0] #[]), (.func (.func 42) #[] #[pt b21 0, pt b5 0]), (.func (.func 37) #[pt g0 0] #[])] : List Value)[0]? = some (.func (.func 41) #[pt g0 0] #[]) from rfl) rfl) (fun a F => ?_))
  refine l_pk 1 (fun L => (9, .func (.func 41) #[pt g0 0] #[]) :: L) F fun a F => ?_
  refine l_then ?_
  refine s_reg ?_
  refine l_pk 1 (fun L => (76, .func (.func 41) #[pt g0 0] #[]) :: L) F fun a F => ?_
  refine l_do F rfl rfl (op_fn F (by kernel_rfl) (serase_at S (i := 1) rfl (in0) (by omega)) ?_)
  rintro e z ⟨rfl, S⟩
  refine ⟨_, rfl, ?_⟩
  intro a F
  refine l_pk 1 (fun L => (10, .int .i64 sd0.stepE) :: L) F fun a F => ?_
  refine l_then ?_
  refine s_reg ?_
  refine l_pk 1 (fun L => (78, .int .i64 sd0.stepE) :: L) F fun a F => ?_
  by_cases ht24 : (sd0.stepE : Int) = (0 : Int)
  ·
   refine l_do F rfl rfl (op_pk F (v0 := .bool ((sd0.stepE : Int) != (0 : Int))) (v := .bool false) (neqF ht24) fun a F => ?_)
   refine l_then ?_
   refine c_f F rfl ?_
   refine wp_skip ?_
   refine inb_n ?_
   refine then_n ?_
   refine wp_region_list ?_
   refine l_pk 2 (fun L => (72, .int .i64 1) :: (83, .int .i64 1) :: L) F fun a F => ?_
   refine l_then ?_
   refine rnd ?_
   refine s_reg ?_
   refine l_pk 1 (fun L => (73, .bool true) :: L) F fun a F => ?_
   refine l_then ?_
   refine wp_seq ?_
   refine c_t F rfl ?_
   refine wp_skip ?_
   refine then_n ?_
   refine wp_seq ?_
   refine wp_block ?_
   refine s_reg ?_
   refine l_do F rfl rfl (op_index _ 39 _ _ (some ⟨b23, 0, none⟩) 3 3 1 1 .i64 F rfl (by kernel_rfl) (by kernel_rfl) (by kernel_rfl) (by kernel_rfl) (by decide) rfl (fun a F => ?_))
   refine l_do F rfl rfl (op_ldk (some ⟨b23, 0, none⟩) (1 * 1) (.func (.func 42) #[] #[pt b21 0, pt b5 0]) F rfl (cRec S 14 vC_len rfl 0 (show ([(.func (.func 41) #[pt g0 0] #[]), (.func (.func 42) #[] #[pt b21 0, pt b5 0]), (.func (.func 37) #[pt g0 0] #[])] : List Value)[1]? = some (.func (.func 42) #[] #[pt b21 0, pt b5 0]) from rfl) rfl) (fun a F => ?_))
   refine l_pk 1 (fun L => (9, .func (.func 42) #[] #[pt b21 0, pt b5 0]) :: L) F fun a F => ?_
   refine l_then ?_
   refine s_reg ?_
   refine l_pk 1 (fun L => (76, .func (.func 42) #[] #[pt b21 0, pt b5 0]) :: L) F fun a F => ?_
   obtain ⟨G9, g9, hin9, hlt9, k9⟩ := S.frameB [13, 9, 8, 1] (by decide) rfl
   refine l_do F rfl rfl (op_fn F (by kernel_rfl) (lcompF_any _ G9 b21 b5 g0 sd0.ers (N + 1) ((in0).ers) (by omega) A15 c16 (allP (lif + 1) LL) (by omega) g9) ?_)
   rintro e z9 ⟨rfl, g⟩
   have S : Sat w z9 [rest w G, sdA g0 (sd0.ers.app (allP (lif + 1) LL)), sdA g1 sd1, box b 70 [pt g0 0, pt g1 0, .int .i64 1, .int .u32 (lif : Nat), .map (some r), .int .i64 ded], smapA r (es.map LEnt.e) ck, bag rs, row 5 1 (.slice An ((([] : List UInt8) ++ be4 (lif + 1)).length) cn) ((([] : List UInt8) ++ be4 (lif + 1)).length) ((([] : List UInt8) ++ be4 (lif + 1)).flatMap yC), row 30 1 (.slice (some ⟨b4, 0, none⟩) 1 1) 1 (([lif + 1] : List Nat).flatMap nC), row 5 1 (.slice A15 ((allP (lif + 1) LL).length) c16) ((allP (lif + 1) LL).length) ((allP (lif + 1) LL).flatMap yC), box b5 36 [.slice A15 ((allP (lif + 1) LL).length) c16], box qk 68 [.map (some r)], row 9 1 (.slice Ak ((nmsP LL).length) cks) ((nmsP LL).length) ((nmsP LL).flatMap sC), row 5 1 (.slice Ar4 ((recP 4 ([] : Bs) []).length) cr4) ((recP 4 ([] : Bs) []).length) ((recP 4 ([] : Bs) []).flatMap yC), box b21 23 [pt g0 0], row 39 1 (.slice (some ⟨b23, 0, none⟩) 3 3) 3 (([(.func (.func 41) #[pt g0 0] #[]), (.func (.func 42) #[] #[pt b21 0, pt b5 0]), (.func (.func 37) #[pt g0 0] #[])] : List Value).flatMap vC)] := k9 z9 [box b21 23 [pt g0 0], box b5 36 [.slice A15 ((allP (lif + 1) LL).length) c16], row 5 1 (.slice A15 ((allP (lif + 1) LL).length) c16) ((allP (lif + 1) LL).length) ((allP (lif + 1) LL).flatMap yC), sdA g0 (sd0.ers.app (allP (lif + 1) LL))] rfl g
   clear g g9 k9 hin9 hlt9
   refine ⟨_, rfl, ?_⟩
   intro a F
   refine l_pk 1 (fun L => (10, .int .i64 (sd0.ers.appE (allP (lif + 1) LL).length)) :: L) F fun a F => ?_
   refine l_then ?_
   refine s_reg ?_
   refine l_pk 1 (fun L => (78, .int .i64 (sd0.ers.appE (allP (lif + 1) LL).length)) :: L) F fun a F => ?_
   by_cases ht25 : (sd0.ers.appE (allP (lif + 1) LL).length : Int) = (0 : Int)
   ·
    refine l_do F rfl rfl (op_pk F (v0 := .bool ((sd0.ers.appE (allP (lif + 1) LL).length : Int) != (0 : Int))) (v := .bool false) (neqF ht25) fun a F => ?_)
    refine l_then ?_
    refine c_f F rfl ?_
    refine wp_skip ?_
    refine inb_n ?_
    refine then_n ?_
    refine wp_region_list ?_
    refine l_pk 2 (fun L => (72, .int .i64 2) :: (83, .int .i64 2) :: L) F fun a F => ?_
    refine l_then ?_
    refine rnd ?_
    refine s_reg ?_
    refine l_pk 1 (fun L => (73, .bool true) :: L) F fun a F => ?_
    refine l_then ?_
    refine wp_seq ?_
    refine c_t F rfl ?_
    refine wp_skip ?_
    refine then_n ?_
    refine wp_seq ?_
    refine wp_block ?_
    refine s_reg ?_
    refine l_do F rfl rfl (op_index _ 39 _ _ (some ⟨b23, 0, none⟩) 3 3 2 1 .i64 F rfl (by kernel_rfl) (by kernel_rfl) (by kernel_rfl) (by kernel_rfl) (by decide) rfl (fun a F => ?_))
    refine l_do F rfl rfl (op_ldk (some ⟨b23, 0, none⟩) (2 * 1) (.func (.func 37) #[pt g0 0] #[]) F rfl (cRec S 14 vC_len rfl 0 (show ([(.func (.func 41) #[pt g0 0] #[]), (.func (.func 42) #[] #[pt b21 0, pt b5 0]), (.func (.func 37) #[pt g0 0] #[])] : List Value)[2]? = some (.func (.func 37) #[pt g0 0] #[]) from rfl) rfl) (fun a F => ?_))
    refine l_pk 1 (fun L => (9, .func (.func 37) #[pt g0 0] #[]) :: L) F fun a F => ?_
    refine l_then ?_
    refine s_reg ?_
    refine l_pk 1 (fun L => (76, .func (.func 37) #[pt g0 0] #[]) :: L) F fun a F => ?_
    refine l_do F rfl rfl (op_fn F (by kernel_rfl) (ssync_at S (i := 1) rfl (((in0).ers).app _) (by omega)) ?_)
    rintro e z ⟨rfl, S⟩
    refine ⟨_, rfl, ?_⟩
    intro a F
    refine l_pk 1 (fun L => (10, .int .i64 ((sd0.ers.app (allP (lif + 1) LL)).stepE)) :: L) F fun a F => ?_
    refine l_then ?_
    refine s_reg ?_
    refine l_pk 1 (fun L => (78, .int .i64 ((sd0.ers.app (allP (lif + 1) LL)).stepE)) :: L) F fun a F => ?_
    by_cases ht26 : ((sd0.ers.app (allP (lif + 1) LL)).stepE : Int) = (0 : Int)
    ·
     refine l_do F rfl rfl (op_pk F (v0 := .bool (((sd0.ers.app (allP (lif + 1) LL)).stepE : Int) != (0 : Int))) (v := .bool false) (neqF ht26) fun a F => ?_)
     refine l_then ?_
     refine c_f F rfl ?_
     refine wp_skip ?_
     refine inb_n ?_
     refine then_n ?_
     refine wp_region_list ?_
     refine l_pk 2 (fun L => (72, .int .i64 3) :: (83, .int .i64 3) :: L) F fun a F => ?_
     refine l_then ?_
     refine rnd ?_
     refine s_reg ?_
     refine l_pk 1 (fun L => (73, .bool false) :: L) F fun a F => ?_
     refine l_then ?_
     refine wp_seq ?_
     refine c_f F rfl ?_
     refine wp_exit ?_
     refine then_x ?_
     refine then_x ?_
     refine inb_x ?_
     refine then_n ?_
     refine wp_seq ?_
     refine region_gx (fun D => fun (_ : Unit) => [rest w G, sdA g0 (sd0.ers.app (allP (lif + 1) LL)).syn, sdA g1 sd1, bif D 17 then box b 70 [pt g0 0, pt g1 0, .int .i64 0, .int .u32 (lif + 1 : Nat), .map (some r), .int .i64 ded] else (bif D 14 then box b 70 [pt g0 0, pt g1 0, .int .i64 0, .int .u32 (lif : Nat), .map (some r), .int .i64 ded] else box b 70 [pt g0 0, pt g1 0, .int .i64 1, .int .u32 (lif : Nat), .map (some r), .int .i64 ded]), smapA r (es.map LEnt.e) ck, bag rs, row 5 1 (.slice An ((([] : List UInt8) ++ be4 (lif + 1)).length) cn) ((([] : List UInt8) ++ be4 (lif + 1)).length) ((([] : List UInt8) ++ be4 (lif + 1)).flatMap yC), row 30 1 (.slice (some ⟨b4, 0, none⟩) 1 1) 1 (([lif + 1] : List Nat).flatMap nC), row 5 1 (.slice A15 ((allP (lif + 1) LL).length) c16) ((allP (lif + 1) LL).length) ((allP (lif + 1) LL).flatMap yC), box b5 36 [.slice A15 ((allP (lif + 1) LL).length) c16], box qk 68 [.map (some r)], row 9 1 (.slice Ak ((nmsP LL).length) cks) ((nmsP LL).length) ((nmsP LL).flatMap sC), row 5 1 (.slice Ar4 ((recP 4 ([] : Bs) []).length) cr4) ((recP 4 ([] : Bs) []).length) ((recP 4 ([] : Bs) []).flatMap yC), box b21 23 [pt g0 0], row 39 1 (.slice (some ⟨b23, 0, none⟩) 3 3) 3 (([(.func (.func 41) #[pt g0 0] #[]), (.func (.func 42) #[] #[pt b21 0, pt b5 0]), (.func (.func 37) #[pt g0 0] #[])] : List Value).flatMap vC)]) (fun (_ : Unit) => [pt b 0, pt b 0, pt b 0, pt b 0, pt b 2, .int .i64 1, .int .i64 0, pt b 0, pt b 0, pt b 3, .int .u32 (lif : Nat), .int .u32 (lif + 1 : Nat), pt b 0, pt b 2, undef, pt b 0, pt b 3, undef]) [(5, [], [14, 17]), (10, [], [11, 14, 17]), (11, [10], [17]), (14, [5, 10], [17]), (17, [5, 10, 11, 14], [])] () rfl (by kernel_rfl) (by kernel_rfl) F S.drew ?_ ?_ ?_ ?_ ?_
     · rintro ⟨⟩; rfl
     · rintro ⟨⟩; kernel_rfl
     ·
      intro D D' x h
      cases x
      simp only [h 14 (by decide), h 17 (by decide)]
     ·
      refine ⟨?_, ?_⟩
      ·
       refine ⟨_, rfl, rfl, by kernel_rfl, ?_⟩
       rintro D ⟨⟩ a z S F
       refine ⟨by kernel_rfl, ?_⟩
       exact op_ldk (some ⟨b, 0, none⟩) 2 (.int .i64 1) F rfl (cBox S 3 rfl (j := 2) rfl) (⟨(), rfl, (SameB.refl _ _ rfl), S⟩)
      refine ⟨?_, ?_⟩
      ·
       refine ⟨_, rfl, rfl, by kernel_rfl, ?_⟩
       rintro D ⟨⟩ a z S F
       refine ⟨by kernel_rfl, ?_⟩
       exact op_ldk (some ⟨b, 0, none⟩) 3 (.int .u32 (lif : Nat)) F rfl (cBox S 3 rfl (j := 3) rfl) (⟨(), rfl, (SameB.refl _ _ rfl), S⟩)
      refine ⟨?_, ?_⟩
      ·
       refine ⟨_, rfl, rfl, by kernel_rfl, ?_⟩
       rintro D ⟨⟩ a z S F
       refine ⟨by kernel_rfl, ?_⟩
       exact op_pk F (v0 := .int .u32 (IntKind.wrap .u32 ((lif : Nat) + 1))) (v := .int .u32 (lif + 1 : Nat)) (wrn_u32 (by omega) (by omega) (by omega)) ⟨(), rfl, (SameB.refl _ _ rfl), S⟩
      refine ⟨?_, ?_⟩
      ·
       refine ⟨_, rfl, rfl, by kernel_rfl, ?_⟩
       rintro D ⟨⟩ a z S F
       refine ⟨by kernel_rfl, ?_⟩
       exact op_storeB S 3 _ _ _ b 2 (.int .i64 0) F rfl rfl (by kernel_rfl) (by kernel_rfl) (by kernel_rfl) (by kernel_rfl) (by kernel_rfl) fun z S => ⟨(), rfl, (SameB.refl _ _ rfl), S⟩
      refine ⟨?_, ?_⟩
      ·
       refine ⟨_, rfl, rfl, by kernel_rfl, ?_⟩
       rintro D ⟨⟩ a z S F
       refine ⟨by kernel_rfl, ?_⟩
       exact op_storeB S 3 _ _ _ b 3 (.int .u32 (lif + 1 : Nat)) F rfl rfl (by kernel_rfl) (by kernel_rfl) (by kernel_rfl) (by kernel_rfl) (by kernel_rfl) fun z S => ⟨(), rfl, (SameB.refl _ _ rfl), S⟩
      trivial
     rintro ⟨⟩ a z F S
     have F := F.sub (l := []) trivial
     have S : Sat w z [rest w G, sdA g0 (sd0.ers.app (allP (lif + 1) LL)).syn, sdA g1 sd1, box b 70 [pt g0 0, pt g1 0, .int .i64 0, .int .u32 (lif + 1 : Nat), .map (some r), .int .i64 ded], smapA r (es.map LEnt.e) ck, bag rs, row 5 1 (.slice An ((([] : List UInt8) ++ be4 (lif + 1)).length) cn) ((([] : List UInt8) ++ be4 (lif + 1)).length) ((([] : List UInt8) ++ be4 (lif + 1)).flatMap yC), row 30 1 (.slice (some ⟨b4, 0, none⟩) 1 1) 1 (([lif + 1] : List Nat).flatMap nC), row 5 1 (.slice A15 ((allP (lif + 1) LL).length) c16) ((allP (lif + 1) LL).length) ((allP (lif + 1) LL).flatMap yC), box b5 36 [.slice A15 ((allP (lif + 1) LL).length) c16], box qk 68 [.map (some r)], row 9 1 (.slice Ak ((nmsP LL).length) cks) ((nmsP LL).length) ((nmsP LL).flatMap sC), row 5 1 (.slice Ar4 ((recP 4 ([] : Bs) []).length) cr4) ((recP 4 ([] : Bs) []).length) ((recP 4 ([] : Bs) []).flatMap yC), box b21 23 [pt g0 0], row 39 1 (.slice (some ⟨b23, 0, none⟩) 3 3) 3 (([(.func (.func 41) #[pt g0 0] #[]), (.func (.func 42) #[] #[pt b21 0, pt b5 0]), (.func (.func 37) #[pt g0 0] #[])] : List Value).flatMap vC)] := S
     refine then_n ?_
     refine s_reg ?_
     refine l_pk 1 (fun L => (2, .int .i64 0) :: L) F fun a F => ?_
     refine l_then ?_
     refine wp_ret ?_
     exact fin F [.tmp 2] [.int .i64 0] rfl ⟨by kernel_rfl, trivial⟩ (.int .i64 0) rfl ⟨by rw [comp_ok1 ht1 (by omega) ht24 ht25 ht26], by rw [comp_ok1 ht1 (by omega) ht24 ht25 ht26]; exact (lg_shut hok (S.pick [0, 1, 2, 3, 4, 5] (by decide)))⟩
    refine l_do F rfl rfl (op_pk F (v0 := .bool (((sd0.ers.app (allP (lif + 1) LL)).stepE : Int) != (0 : Int))) (v := .bool true) (neqT ht26) fun a F => ?_)
    refine l_then ?_
    refine c_t F rfl ?_
    refine s_reg ?_
    refine l_pk 2 (fun L => (81, .int .i64 ((sd0.ers.app (allP (lif + 1) LL)).stepE)) :: (80, pt b 0) :: L) F fun a F => ?_
    obtain ⟨G9, g9, hin9, hlt9, k9⟩ := S.frameB [3] (by decide) rfl
    refine l_do F rfl rfl (op_fn F (by kernel_rfl) (lfail_any _ G9 b (pt g0 0) (pt g1 0) (.int .i64 1) (.int .u32 (lif : Nat)) (.map (some r)) ded g9 ((sd0.ers.app (allP (lif + 1) LL)).stepE)) ?_)
    rintro e z9 ⟨rfl, g⟩
    have S : Sat w z9 [rest w G, sdA g0 (sd0.ers.app (allP (lif + 1) LL)).syn, sdA g1 sd1, box b 70 [pt g0 0, pt g1 0, .int .i64 1, .int .u32 (lif : Nat), .map (some r), .int .i64 (failD ded ((sd0.ers.app (allP (lif + 1) LL)).stepE))], smapA r (es.map LEnt.e) ck, bag rs, row 5 1 (.slice An ((([] : List UInt8) ++ be4 (lif + 1)).length) cn) ((([] : List UInt8) ++ be4 (lif + 1)).length) ((([] : List UInt8) ++ be4 (lif + 1)).flatMap yC), row 30 1 (.slice (some ⟨b4, 0, none⟩) 1 1) 1 (([lif + 1] : List Nat).flatMap nC), row 5 1 (.slice A15 ((allP (lif + 1) LL).length) c16) ((allP (lif + 1) LL).length) ((allP (lif + 1) LL).flatMap yC), box b5 36 [.slice A15 ((allP (lif + 1) LL).length) c16], box qk 68 [.map (some r)], row 9 1 (.slice Ak ((nmsP LL).length) cks) ((nmsP LL).length) ((nmsP LL).flatMap sC), row 5 1 (.slice Ar4 ((recP 4 ([] : Bs) []).length) cr4) ((recP 4 ([] : Bs) []).length) ((recP 4 ([] : Bs) []).flatMap yC), box b21 23 [pt g0 0], row 39 1 (.slice (some ⟨b23, 0, none⟩) 3 3) 3 (([(.func (.func 41) #[pt g0 0] #[]), (.func (.func 42) #[] #[pt b21 0, pt b5 0]), (.func (.func 37) #[pt g0 0] #[])] : List Value).flatMap vC)] := k9 z9 [box b 70 [pt g0 0, pt g1 0, .int .i64 1, .int .u32 (lif : Nat), .map (some r), .int .i64 (failD ded ((sd0.ers.app (allP (lif + 1) LL)).stepE))]] rfl g
    clear g g9 k9 hin9 hlt9
    refine ⟨_, rfl, ?_⟩
    intro a F
    refine l_pk 1 (fun L => (2, .int .i64 ((sd0.ers.app (allP (lif + 1) LL)).stepE)) :: L) F fun a F => ?_
    refine l_then ?_
    refine wp_ret ?_
    refine inb_r (then_r (then_r (inb_r (then_r (?_)))))
    exact fin F [.tmp 2] [.int .i64 ((sd0.ers.app (allP (lif + 1) LL)).stepE)] rfl ⟨by kernel_rfl, trivial⟩ (.int .i64 ((sd0.ers.app (allP (lif + 1) LL)).stepE)) rfl ⟨by rw [comp_s1 ht1 (by omega) ht24 ht25 ht26], by rw [comp_s1 ht1 (by omega) ht24 ht25 ht26]; exact (lg_shut hok (S.pick [0, 1, 2, 3, 4, 5] (by decide)))⟩
   refine l_do F rfl rfl (op_pk F (v0 := .bool ((sd0.ers.appE (allP (lif + 1) LL).length : Int) != (0 : Int))) (v := .bool true) (neqT ht25) fun a F => ?_)
   refine l_then ?_
   refine c_t F rfl ?_
   refine s_reg ?_
   refine l_pk 2 (fun L => (81, .int .i64 (sd0.ers.appE (allP (lif + 1) LL).length)) :: (80, pt b 0) :: L) F fun a F => ?_
   obtain ⟨G9, g9, hin9, hlt9, k9⟩ := S.frameB [3] (by decide) rfl
   refine l_do F rfl rfl (op_fn F (by kernel_rfl) (lfail_any _ G9 b (pt g0 0) (pt g1 0) (.int .i64 1) (.int .u32 (lif : Nat)) (.map (some r)) ded g9 (sd0.ers.appE (allP (lif + 1) LL).length)) ?_)
   rintro e z9 ⟨rfl, g⟩
   have S : Sat w z9 [rest w G, sdA g0 (sd0.ers.app (allP (lif + 1) LL)), sdA g1 sd1, box b 70 [pt g0 0, pt g1 0, .int .i64 1, .int .u32 (lif : Nat), .map (some r), .int .i64 (failD ded (sd0.ers.appE (allP (lif + 1) LL).length))], smapA r (es.map LEnt.e) ck, bag rs, row 5 1 (.slice An ((([] : List UInt8) ++ be4 (lif + 1)).length) cn) ((([] : List UInt8) ++ be4 (lif + 1)).length) ((([] : List UInt8) ++ be4 (lif + 1)).flatMap yC), row 30 1 (.slice (some ⟨b4, 0, none⟩) 1 1) 1 (([lif + 1] : List Nat).flatMap nC), row 5 1 (.slice A15 ((allP (lif + 1) LL).length) c16) ((allP (lif + 1) LL).length) ((allP (lif + 1) LL).flatMap yC), box b5 36 [.slice A15 ((allP (lif + 1) LL).length) c16], box qk 68 [.map (some r)], row 9 1 (.slice Ak ((nmsP LL).length) cks) ((nmsP LL).length) ((nmsP LL).flatMap sC), row 5 1 (.slice Ar4 ((recP 4 ([] : Bs) []).length) cr4) ((recP 4 ([] : Bs) []).length) ((recP 4 ([] : Bs) []).flatMap yC), box b21 23 [pt g0 0], row 39 1 (.slice (some ⟨b23, 0, none⟩) 3 3) 3 (([(.func (.func 41) #[pt g0 0] #[]), (.func (.func 42) #[] #[pt b21 0, pt b5 0]), (.func (.func 37) #[pt g0 0] #[])] : List Value).flatMap vC)] := k9 z9 [box b 70 [pt g0 0, pt g1 0, .int .i64 1, .int .u32 (lif : Nat), .map (some r), .int .i64 (failD ded (sd0.ers.appE (allP (lif + 1) LL).length))]] rfl g
   clear g g9 k9 hin9 hlt9
   refine ⟨_, rfl, ?_⟩
   intro a F
   refine l_pk 1 (fun L => (2, .int .i64 (sd0.ers.appE (allP (lif + 1) LL).length)) :: L) F fun a F => ?_
   refine l_then ?_
   refine wp_ret ?_
   refine inb_r (then_r (then_r (inb_r (then_r (?_)))))
   exact fin F [.tmp 2] [.int .i64 (sd0.ers.appE (allP (lif + 1) LL).length)] rfl ⟨by kernel_rfl, trivial⟩ (.int .i64 (sd0.ers.appE (allP (lif + 1) LL).length)) rfl ⟨by rw [comp_a1 ht1 (by omega) ht24 ht25], by rw [comp_a1 ht1 (by omega) ht24 ht25]; exact (lg_shut hok (S.pick [0, 1, 2, 3, 4, 5] (by decide)))⟩
  refine l_do F rfl rfl (op_pk F (v0 := .bool ((sd0.stepE : Int) != (0 : Int))) (v := .bool true) (neqT ht24) fun a F => ?_)
  refine l_then ?_
  refine c_t F rfl ?_
  refine s_reg ?_
  refine l_pk 2 (fun L => (81, .int .i64 sd0.stepE) :: (80, pt b 0) :: L) F fun a F => ?_
  obtain ⟨G9, g9, hin9, hlt9, k9⟩ := S.frameB [3] (by decide) rfl
  refine l_do F rfl rfl (op_fn F (by kernel_rfl) (lfail_any _ G9 b (pt g0 0) (pt g1 0) (.int .i64 1) (.int .u32 (lif : Nat)) (.map (some r)) ded g9 sd0.stepE) ?_)
  rintro e z9 ⟨rfl, g⟩
  have S : Sat w z9 [rest w G, sdA g0 sd0.ers, sdA g1 sd1, box b 70 [pt g0 0, pt g1 0, .int .i64 1, .int .u32 (lif : Nat), .map (some r), .int .i64 (failD ded sd0.stepE)], smapA r (es.map LEnt.e) ck, bag rs, row 5 1 (.slice An ((([] : List UInt8) ++ be4 (lif + 1)).length) cn) ((([] : List UInt8) ++ be4 (lif + 1)).length) ((([] : List UInt8) ++ be4 (lif + 1)).flatMap yC), row 30 1 (.slice (some ⟨b4, 0, none⟩) 1 1) 1 (([lif + 1] : List Nat).flatMap nC), row 5 1 (.slice A15 ((allP (lif + 1) LL).length) c16) ((allP (lif + 1) LL).length) ((allP (lif + 1) LL).flatMap yC), box b5 36 [.slice A15 ((allP (lif + 1) LL).length) c16], box qk 68 [.map (some r)], row 9 1 (.slice Ak ((nmsP LL).length) cks) ((nmsP LL).length) ((nmsP LL).flatMap sC), row 5 1 (.slice Ar4 ((recP 4 ([] : Bs) []).length) cr4) ((recP 4 ([] : Bs) []).length) ((recP 4 ([] : Bs) []).flatMap yC), box b21 23 [pt g0 0], row 39 1 (.slice (some ⟨b23, 0, none⟩) 3 3) 3 (([(.func (.func 41) #[pt g0 0] #[]), (.func (.func 42) #[] #[pt b21 0, pt b5 0]), (.func (.func 37) #[pt g0 0] #[])] : List Value).flatMap vC)] := k9 z9 [box b 70 [pt g0 0, pt g1 0, .int .i64 1, .int .u32 (lif : Nat), .map (some r), .int .i64 (failD ded sd0.stepE)]] rfl g
  clear g g9 k9 hin9 hlt9
  refine ⟨_, rfl, ?_⟩
  intro a F
  refine l_pk 1 (fun L => (2, .int .i64 sd0.stepE) :: L) F fun a F => ?_
  refine l_then ?_
  refine wp_ret ?_
  refine inb_r (then_r (then_r (inb_r (then_r (?_)))))
  exact fin F [.tmp 2] [.int .i64 sd0.stepE] rfl ⟨by kernel_rfl, trivial⟩ (.int .i64 sd0.stepE) rfl ⟨by rw [comp_e1 ht1 (by omega) ht24], by rw [comp_e1 ht1 (by omega) ht24]; exact (lg_shut hok (S.pick [0, 1, 2, 3, 4, 5] (by decide)))⟩
 refine l_do F rfl rfl (op_pk F (v0 := .bool ((ded : Int) != (0 : Int))) (v := .bool true) (neqT ht1) fun a F => ?_)
 refine l_then ?_
 refine c_t F rfl ?_
 refine s_reg ?_
 refine l_pk 2 (fun L => (2, .int .i64 ded) :: (15, .int .i64 ded) :: L) F fun a F => ?_
 refine l_then ?_
 refine wp_ret ?_
 refine then_r (?_)
 exact fin F [.tmp 2] [.int .i64 ded] rfl ⟨by kernel_rfl, trivial⟩ (.int .i64 ded) rfl ⟨by rw [comp_dead ht1], by rw [comp_dead ht1]; exact (lg_shut hok (S.pick [0, 1, 2, 3, 4, 5] (by decide)))⟩
theorem lcomp_any {w : World} {G : Nat → Prop} {b g0 g1 : Nat} {x : Lg} (N : Int) (in0 : x.s0.In N) (in1 : x.s1.In N) (hN : N ≤ 1000000) (ok : LbOk x.lb 900000) (hS : Sat w w [lgA b g0 g1 x.lb, sdA g0 x.s0, sdA g1 x.s1, rest w G]) :
    Calls Try.prog 13 #[pt b 0] w fun e w' => e = .returned (.int .i64 (compT x).1) ∧ Sat w w' [lgA b g0 g1 (compT x).2.lb, sdA g0 (compT x).2.s0, sdA g1 (compT x).2.s1, rest w G] := by
  obtain ⟨⟨on, lif, LL, ded⟩, sd0, sd1⟩ := x
  obtain ⟨hon, hlif, hri, hnm, hvl, hct⟩ := ok
  rcases (show on = 0 ∨ on = 1 from by simp at hon; omega) with rfl | rfl
  · exact lcomp0_any w G b g0 g1 lif LL ded sd0 sd1 N in0 in1 hN hlif hri hnm hvl hct hS
  · exact lcomp1_any w G b g0 g1 lif LL ded sd0 sd1 N in0 in1 hN hlif hri hnm hvl hct hS
end Go.Proofs.Ytidcdfilfccigaa
