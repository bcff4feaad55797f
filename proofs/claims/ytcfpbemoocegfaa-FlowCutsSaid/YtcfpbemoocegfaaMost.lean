/- Walk over how much can go, and what goes over each channel. -/
import Derived.Test.YtcfpbemoocegfaaFright
import Derived.Test.YtcfpbemoocegfaaFlowQ
import Derived.Test.YtcfpbemoocegfaaGk
namespace Go.Proofs.Ytcfpbemoocegfaa
set_option linter.unusedVariables false
set_option linter.unusedSimpArgs false
set_option linter.unnecessarySimpa false
open Go Go.RowKit

/-- A pipe: which channel, from which node, how much. -/
structure Pip where
  i : Int
  n : Int
  am : Int
def pipC (p : Pip) : List Value := [.int .i64 p.i, .int .i64 p.n, .int .u64 p.am]
theorem pipC_len (p : Pip) : (pipC p).length = 3 := rfl
def pipe1 (i : Nat) (e f : Edg) : List Pip := (if f.c0 < e.c0 then [⟨i, e.a, e.c0 - f.c0⟩] else []) ++ (if f.c1 < e.c1 then [⟨i, e.b, e.c1 - f.c1⟩] else [])
def pipesF : Nat → List Edg → List Edg → List Pip
  | i, e :: l, f :: m => pipe1 i e f ++ pipesF (i + 1) l m
  | _, _, _ => []
def pipesTo (x y : Wb) (k : Nat) : List Pip := pipesF 0 (x.edges.take k) (y.edges.take k)
theorem pipesF_snoc (e f : Edg) : ∀ (l m : List Edg) (i : Nat), l.length = m.length → pipesF i (l ++ [e]) (m ++ [f]) = pipesF i l m ++ pipe1 (i + l.length) e f
  | [], [], i, _ => by simp [pipesF]
  | a :: l, b :: m, i, h => by
    have h : l.length + 1 = m.length + 1 := h
    show pipe1 i a b ++ pipesF (i + 1) (l ++ [e]) (m ++ [f]) = (pipe1 i a b ++ pipesF (i + 1) l m) ++ pipe1 (i + (l.length + 1)) e f
    rw [pipesF_snoc e f l m (i + 1) (by omega), List.append_assoc, show i + 1 + l.length = i + (l.length + 1) from by omega]
  | [], _ :: _, _, h => by simp at h
  | _ :: _, [], _, h => by simp at h
theorem pipes_snoc {x y : Wb} {k : Nat} {e f : Edg} (he : x.edges[k]? = some e) (hf : y.edges[k]? = some f) : pipesTo x y (k + 1) = pipesTo x y k ++ pipe1 k e f := by
  have h1 := (List.getElem?_eq_some_iff.1 he).1
  have h2 := (List.getElem?_eq_some_iff.1 hf).1
  unfold pipesTo
  rw [List.take_add_one, List.take_add_one, he, hf]
  show pipesF 0 (_ ++ [e]) (_ ++ [f]) = _
  rw [pipesF_snoc e f _ _ 0 (by rw [List.length_take, List.length_take]; omega), List.length_take, Nat.min_eq_left (by omega), Nat.zero_add]
theorem pipe1_len (i : Nat) (e f : Edg) : (pipe1 i e f).length ≤ 2 := by
  unfold pipe1; rw [List.length_append]; split <;> split <;> simp
theorem pipesF_len : ∀ (l m : List Edg) (i : Nat), (pipesF i l m).length ≤ 2 * l.length
  | [], _, _ => by simp [pipesF]
  | _ :: _, [], _ => by simp [pipesF]
  | a :: l, b :: m, i => by
    have h1 := pipe1_len i a b
    have h2 := pipesF_len l m (i + 1)
    show (pipe1 i a b ++ pipesF (i + 1) l m).length ≤ 2 * (l.length + 1)
    rw [List.length_append]; omega
theorem pipes_len (x y : Wb) (k : Nat) : (pipesTo x y k).length ≤ 2 * x.edges.length := by
  have h := pipesF_len (x.edges.take k) (y.edges.take k) 0
  rw [List.length_take] at h
  unfold pipesTo
  omega
/-- What a flow comes to. -/
def MostOk (x : Wb) (from_ to limit n : Int) (P : List Pip) : Prop :=
  (frightP x from_ to ≠ 0 ∧ n = 0 ∧ P = []) ∨ (frightP x from_ to = 0 ∧ ∃ (fr t : Nat) (y : Wb), from_ = (fr : Int) ∧ to = (t : Int) ∧ FlowAt x y fr t n ∧ P = pipesTo x y x.edges.length ∧ n ≤ limit ∧ (n = limit ∨ ∃ by_, RchOk x y fr by_ ∧ come by_ (t : Int) = false))

set_option maxRecDepth 100000 in
set_option maxHeartbeats 4000000 in
theorem most_any (w : World) (As : Option Addr) (cs : Nat) (Ae : Option Addr) (ce : Nat) (x : Wb) (h : WebAt w As cs Ae ce x) (ok : x.Ok) (hs1 : x.edges.length ≤ 1000) (from_ to limit : Int) (hl : U64 limit) : Calls Try.prog 35 #[.agg #[.slice As x.spots.length cs, .slice Ae x.edges.length ce], .int .i64 from_, .int .i64 to, .int .u64 limit] w fun e w' => ∃ (n : Int) (A' : Option Addr) (c' : Nat) (P : List Pip), e = .returned (.tuple #[.int .u64 n, .slice A' P.length c', .int .i64 (frightP x from_ to)]) ∧ MostOk x from_ to limit n P ∧ Sat w w' [rest w (· < w.heap.size), row 145 3 (.slice A' P.length c') P.length (P.flatMap pipC)] := by
 refine enter 103 Try.func35 rfl rfl rfl fun a F => ?_
 have S := Sat.pushRest w
 refine s_reg ?_
 refine l_do F rfl rfl (op_box S _ _ (.agg #[.slice As x.spots.length cs, .slice Ae x.edges.length ce]) F rfl (by kernel_rfl) fun b1 z S a F => ?_)
 refine l_pure 3 (fun L => (10, .int .i64 0) :: (9, .slice none 0 0) :: (8, .int .u64 0) :: L) F (by kernel_rfl) fun a F => ?_
 refine l_then ?_
 refine wp_seq ?_
 refine s_reg ?_
 refine l_do F rfl rfl (op_loadK _ _ (some ⟨b1, 0, none⟩) 0 [.slice As x.spots.length cs, .slice Ae x.edges.length ce] F rfl (by kernel_rfl) (by kernel_rfl) (by kernel_rfl) (by simp) (cBoxK S 1 rfl 0 (by kernel_rfl)) (fun a F => ?_))
 refine l_pure 2 (fun L => (23, .int .i64 to) :: (22, .int .i64 from_) :: L) F (by kernel_rfl) fun a F => ?_
 refine l_do F rfl rfl (op_fn F (by kernel_rfl) (fright_any _ As cs Ae ce x (h.move S rfl) ok hs1 from_ to) ?_)
 rintro e z ⟨rfl, hb⟩
 have S := S.grow hb
 refine ⟨_, rfl, ?_⟩
 intro a F
 refine l_pure 1 (fun L => (11, .int .i64 (frightP x from_ to)) :: L) F (by kernel_rfl) fun a F => ?_
 refine l_then ?_
 refine s_reg ?_
 refine l_pure 1 (fun L => (25, .int .i64 (frightP x from_ to)) :: L) F (by kernel_rfl) fun a F => ?_
 by_cases ht2 : (frightP x from_ to : Int) = (0 : Int)
 ·
  skip
  have hr := ht2
  obtain ⟨hc, ⟨fr, t, hq1, hq2, hfr, ht, hne⟩, hal, hho, hsum⟩ := fright_zero ok hr
  subst hq1
  subst hq2
  refine l_do F rfl rfl (op_pure F (v0 := .bool ((frightP x (fr : Nat) (t : Nat) : Int) != (0 : Int))) (v := .bool false) (by kernel_rfl) (neqF hr) fun a F => ?_)
  refine l_then ?_
  refine c_f F rfl ?_
  refine wp_skip ?_
  refine then_n ?_
  refine s_reg ?_
  refine l_pure 1 (fun L => (12, .slice none 0 0) :: L) F (by kernel_rfl) fun a F => ?_
  refine l_then ?_
  refine wp_seq ?_
  refine s_reg ?_
  refine l_pure 1 (fun L => (28, .pointer (some ⟨b1, 1, none⟩)) :: L) F (by kernel_rfl) fun a F => ?_
  refine l_do F rfl rfl (op_load _ _ (some ⟨b1, 0, none⟩) 1 (.slice Ae x.edges.length ce) F rfl (by kernel_rfl) (by kernel_rfl) (cBox S 1 rfl (j := 1) rfl) (fun a F => ?_))
  refine l_pure 2 (fun L => (31, .int .i64 0) :: (30, .int .i64 (x.edges.length : Nat)) :: L) F (by kernel_rfl) fun a F => ?_
  refine l_then ?_
  refine wp_block ?_
  refine wp_loop_m (fun m a z => ∃ (k : Nat) (Ar : Option Addr) (cr : Nat), m = x.edges.length - k ∧ (k ≤ x.edges.length) ∧ Fr a 103 [(1, .int .i64 (fr : Nat)), (2, .int .i64 (t : Nat)), (3, .int .u64 limit), (4, .pointer (some ⟨b1, 0, none⟩)), (12, .slice Ar ((x.edges.take k).length) cr), (29, .slice Ae x.edges.length ce), (30, .int .i64 (x.edges.length : Nat)), (31, .int .i64 (k : Nat))] ∧ Sat w z [rest w (· < w.heap.size), box b1 32 [.slice As x.spots.length cs, .slice Ae x.edges.length ce], row 57 2 (.slice Ar ((x.edges.take k).length) cr) ((x.edges.take k).length) ((x.edges.take k).flatMap resC)]) _ ⟨0, none, 0, rfl, Nat.zero_le _, F.sub ⟨by kernel_rfl, by kernel_rfl, by kernel_rfl, by kernel_rfl, by kernel_rfl, by kernel_rfl, by kernel_rfl, by kernel_rfl, trivial⟩, (S.nilRow 57 2)⟩ ?_
  rintro m a z ⟨k, Ar, cr, hm, hf3, F, S⟩
  have hrl : (x.edges.take k).length ≤ 1000 := by rw [List.length_take]; omega
  refine s_reg ?_
  by_cases ht4 : ((k : Nat) : Int) < ((x.edges.length : Nat) : Int)
  ·
   skip
   obtain ⟨ed, hed⟩ : ∃ ed, x.edges[k]? = some ed := ⟨_, List.getElem?_eq_getElem (by omega)⟩
   refine l_do F rfl rfl (op_pure F (v0 := .bool (decide (((k : Nat) : Int) < ((x.edges.length : Nat) : Int)))) (v := .bool true) (by kernel_rfl) (lssT ht4) fun a F => ?_)
   refine l_then ?_
   refine wp_seq ?_
   refine c_t F rfl ?_
   refine wp_skip ?_
   refine then_n ?_
   refine wp_seq ?_
   refine wp_block ?_
   refine s_reg ?_
   refine l_do F rfl rfl (op_index _ 62 _ _ Ae x.edges.length ce k 8 .i64 F rfl (by kernel_rfl) (by kernel_rfl) (by kernel_rfl) (by kernel_rfl) (get_lt hed) (recs_some h.e (m := k) (get_lt hed)) (fun a F => ?_))
   refine l_do F rfl rfl (op_loadK _ _ Ae (k * 8) [.int .i64 ed.a, .int .i64 ed.b, .int .u64 ed.c0, .int .u64 ed.c1, .int .u64 ed.b0, .int .u64 ed.r0, .int .u64 ed.b1, .int .u64 ed.r1] F rfl (by kernel_rfl) (by kernel_rfl) (by kernel_rfl) (by simp) (cOldK0 S 0 edC_len h.e rfl hed (by kernel_rfl)) (fun a F => ?_))
   refine l_do F rfl rfl (op_alloc S _ (.agg #[.int .i64 0, .int .i64 0, .int .u64 0, .int .u64 0, .int .u64 0, .int .u64 0, .int .u64 0, .int .u64 0]) rfl (by kernel_rfl) fun b5 z S a F => ?_)
   refine l_do F rfl rfl (op_storeB S 3 _ _ _ b5 0 (.agg #[.int .i64 ed.a, .int .i64 ed.b, .int .u64 ed.c0, .int .u64 ed.c1, .int .u64 ed.b0, .int .u64 ed.r0, .int .u64 ed.b1, .int .u64 ed.r1]) F rfl rfl (by kernel_rfl) (by kernel_rfl) (by kernel_rfl) (by kernel_rfl) (by kernel_rfl) fun z S a F => ?_)
   refine l_then ?_
   refine wp_region_list ?_
   refine l_pure 2 (fun L => (36, .pointer (some ⟨b5, 2, none⟩)) :: (35, .slice Ar ((x.edges.take k).length) cr) :: L) F (by kernel_rfl) fun a F => ?_
   refine l_do F rfl rfl (op_loadK _ _ (some ⟨b5, 0, none⟩) 2 [.int .u64 ed.c0, .int .u64 ed.c1] F rfl (by kernel_rfl) (by kernel_rfl) (by kernel_rfl) (by simp) (cBoxK S 3 rfl 2 (by kernel_rfl)) (fun a F => ?_))
   refine l_do F rfl rfl (op_buildSlice S _ 1 _ 57 2 resC ([ed] : List Edg) F rfl (by kernel_rfl) (by kernel_rfl) (by kernel_rfl) (by unfold maxLen; omega) fun b6 z S a F => ?_)
   refine l_do F rfl rfl (op_append S 2 _ _ _ 57 (.agg #[.int .u64 0, .int .u64 0]) 2 16 (x.edges.take k) ([ed] : List Edg) resC (some ⟨b6, 0, none⟩) 1 F resC_len (fun _ => rfl) rfl rfl (by kernel_rfl) (by kernel_rfl) rfl rfl rfl (by kernel_rfl) (by kernel_rfl) (row_none (S.rowOf (i := 4) rfl)) (src_row (S.rowOf (i := 4) rfl)) (by first | omega | (simp <;> omega)) fun A7 c8 z S a F => ?_)
   refine l_pure 1 (fun L => (12, .slice A7 (((x.edges.take k) ++ ([ed] : List Edg)).length) c8) :: L) F (by kernel_rfl) fun a F => ?_
   refine l_nil (inb_n ?_)
   refine then_n ?_
   refine wp_region_list ?_
   refine l_do F rfl rfl (op_pure F (v0 := .int .i64 (IntKind.wrap .i64 ((k : Nat) + 1))) (v := .int .i64 (k + 1 : Nat)) (by kernel_rfl) (wrn_i64 (by omega) (by omega) (by omega)) fun a F => ?_)
   refine l_pure 1 (fun L => (31, .int .i64 (k + 1 : Nat)) :: L) F (by kernel_rfl) fun a F => ?_
   refine l_then ?_
   have hsn : ((x.edges.take k) ++ ([ed] : List Edg)) = (x.edges.take (k + 1)) := by rw [List.take_add_one, hed]; rfl
   rw [hsn] at F S
   exact ⟨_, (by omega), k + 1, A7, c8, rfl, (by omega), F.sub ⟨by kernel_rfl, by kernel_rfl, by kernel_rfl, by kernel_rfl, by kernel_rfl, by kernel_rfl, by kernel_rfl, by kernel_rfl, trivial⟩, (S.pick [0, 1, 2] (by decide))⟩
  ·
   skip
   have hk : k = x.edges.length := by omega
   rw [hk, List.take_length] at F S
   refine l_do F rfl rfl (op_pure F (v0 := .bool (decide (((x.edges.length : Nat) : Int) < ((x.edges.length : Nat) : Int)))) (v := .bool false) (by kernel_rfl) (lssF (Int.lt_irrefl _)) fun a F => ?_)
   refine l_then ?_
   refine wp_seq ?_
   refine c_f F rfl ?_
   refine wp_exit ?_
   refine then_x ?_
   refine then_x ?_
   refine inb_x ?_
   refine then_n ?_
   refine cutK 2 (fun a z => ∃ (sm : Int) (y2 : Wb), (FlowAt x y2 fr t sm) ∧ (sm ≤ limit) ∧ (sm = limit ∨ ∃ by_, RchOk x y2 fr by_ ∧ come by_ (t : Int) = false) ∧ Fr a 103 [(4, .pointer (some ⟨b1, 0, none⟩)), (12, .slice Ar x.edges.length cr), (15, .int .u64 sm)] ∧ Sat w z [rest w (· < w.heap.size), box b1 32 [.slice As x.spots.length cs, .slice Ae x.edges.length ce], row 57 2 (.slice Ar x.edges.length cr) x.edges.length (y2.edges.flatMap resC)]) ?_ ?_
   ·
    rintro a z ⟨sm, y2, hf9, hf10, hf11, F, S⟩
    dsimp only [tailAt]
    have hflow := hf9
    have hsl := hf10
    have hend := hf11
    refine s_reg ?_
    refine l_pure 1 (fun L => (17, .slice none 0 0) :: L) F (by kernel_rfl) fun a F => ?_
    refine l_then ?_
    refine wp_seq ?_
    refine s_reg ?_
    refine l_pure 1 (fun L => (57, .pointer (some ⟨b1, 1, none⟩)) :: L) F (by kernel_rfl) fun a F => ?_
    refine l_do F rfl rfl (op_load _ _ (some ⟨b1, 0, none⟩) 1 (.slice Ae x.edges.length ce) F rfl (by kernel_rfl) (by kernel_rfl) (cBox S 1 rfl (j := 1) rfl) (fun a F => ?_))
    refine l_pure 2 (fun L => (60, .int .i64 0) :: (59, .int .i64 (x.edges.length : Nat)) :: L) F (by kernel_rfl) fun a F => ?_
    refine l_then ?_
    refine wp_block ?_
    refine wp_loop_m (fun m a z => ∃ (k4 : Nat) (Ap : Option Addr) (cp : Nat), m = x.edges.length - k4 ∧ (k4 ≤ x.edges.length) ∧ Fr a 103 [(12, .slice Ar x.edges.length cr), (15, .int .u64 sm), (17, .slice Ap ((pipesTo x y2 k4).length) cp), (58, .slice Ae x.edges.length ce), (59, .int .i64 (x.edges.length : Nat)), (60, .int .i64 (k4 : Nat))] ∧ Sat w z [rest w (· < w.heap.size), box b1 32 [.slice As x.spots.length cs, .slice Ae x.edges.length ce], row 57 2 (.slice Ar x.edges.length cr) x.edges.length (y2.edges.flatMap resC), row 145 3 (.slice Ap ((pipesTo x y2 k4).length) cp) ((pipesTo x y2 k4).length) ((pipesTo x y2 k4).flatMap pipC)]) _ ⟨0, none, 0, rfl, Nat.zero_le _, F.sub ⟨by kernel_rfl, by kernel_rfl, by kernel_rfl, by kernel_rfl, by kernel_rfl, by kernel_rfl, trivial⟩, (S.nilRow 145 3)⟩ ?_
    rintro m a z ⟨k4, Ap, cp, hm, hf12, F, S⟩
    refine s_reg ?_
    by_cases ht13 : ((k4 : Nat) : Int) < ((x.edges.length : Nat) : Int)
    ·
     skip
     obtain ⟨ed, hed⟩ : ∃ ed, x.edges[k4]? = some ed := ⟨_, List.getElem?_eq_getElem (by omega)⟩
     have hlen9 := hflow.res.len
     obtain ⟨f, hf⟩ : ∃ f, y2.edges[k4]? = some f := ⟨_, List.getElem?_eq_getElem (by omega)⟩
     have hedo := ok.e ed (List.mem_of_getElem? hed)
     have hfo := hflow.res.ok.e f (List.mem_of_getElem? hf)
     have k1 := hedo.c0
     have k2 := hedo.c1
     have k3 := hfo.c0
     have k4' := hfo.c1
     unfold U64 at k1 k2 k3 k4'
     have hpl := pipes_len x y2 k4
     refine l_do F rfl rfl (op_pure F (v0 := .bool (decide (((k4 : Nat) : Int) < ((x.edges.length : Nat) : Int)))) (v := .bool true) (by kernel_rfl) (lssT ht13) fun a F => ?_)
     refine l_then ?_
     refine wp_seq ?_
     refine c_t F rfl ?_
     refine wp_skip ?_
     refine then_n ?_
     refine wp_seq ?_
     refine wp_block ?_
     refine s_reg ?_
     refine l_pure 1 (fun L => (62, .int .i64 (k4 : Nat)) :: L) F (by kernel_rfl) fun a F => ?_
     refine l_do F rfl rfl (op_index _ 62 _ _ Ae x.edges.length ce k4 8 .i64 F rfl (by kernel_rfl) (by kernel_rfl) (by kernel_rfl) (by kernel_rfl) (get_lt hed) (recs_some h.e (m := k4) (get_lt hed)) (fun a F => ?_))
     refine l_do F rfl rfl (op_loadK _ _ Ae (k4 * 8) [.int .i64 ed.a, .int .i64 ed.b, .int .u64 ed.c0, .int .u64 ed.c1, .int .u64 ed.b0, .int .u64 ed.r0, .int .u64 ed.b1, .int .u64 ed.r1] F rfl (by kernel_rfl) (by kernel_rfl) (by kernel_rfl) (by simp) (cOldK0 S 0 edC_len h.e rfl hed (by kernel_rfl)) (fun a F => ?_))
     refine l_do F rfl rfl (op_alloc S _ (.agg #[.int .i64 0, .int .i64 0, .int .u64 0, .int .u64 0, .int .u64 0, .int .u64 0, .int .u64 0, .int .u64 0]) rfl (by kernel_rfl) fun b14 z S a F => ?_)
     refine l_pure 1 (fun L => (18, .int .i64 (k4 : Nat)) :: L) F (by kernel_rfl) fun a F => ?_
     refine l_do F rfl rfl (op_storeB S 4 _ _ _ b14 0 (.agg #[.int .i64 ed.a, .int .i64 ed.b, .int .u64 ed.c0, .int .u64 ed.c1, .int .u64 ed.b0, .int .u64 ed.r0, .int .u64 ed.b1, .int .u64 ed.r1]) F rfl rfl (by kernel_rfl) (by kernel_rfl) (by kernel_rfl) (by kernel_rfl) (by kernel_rfl) fun z S a F => ?_)
     refine l_then ?_
     refine s_reg ?_
     refine l_pure 1 (fun L => (65, .int .i64 0) :: L) F (by kernel_rfl) fun a F => ?_
     refine l_then ?_
     refine wp_block ?_
     refine wp_loop_rounds 3 (rnd ?_)
     refine s_reg ?_
     refine l_pure 1 (fun L => (66, .bool true) :: L) F (by kernel_rfl) fun a F => ?_
     refine l_then ?_
     refine wp_seq ?_
     refine c_t F rfl ?_
     refine wp_skip ?_
     refine then_n ?_
     refine wp_seq ?_
     refine wp_block ?_
     refine s_reg ?_
     refine l_pure 2 (fun L => (20, .int .i64 0) :: (67, .int .i64 0) :: L) F (by kernel_rfl) fun a F => ?_
     refine l_then ?_
     refine wp_seq ?_
     by_cases ht15 : (f.c0 : Int) < (ed.c0 : Int)
     ·
      skip
      refine region_gx (fun D => fun (_ : Unit) => [rest w (· < w.heap.size), box b1 32 [.slice As x.spots.length cs, .slice Ae x.edges.length ce], row 57 2 (.slice Ar x.edges.length cr) x.edges.length (y2.edges.flatMap resC), row 145 3 (.slice Ap ((pipesTo x y2 k4).length) cp) ((pipesTo x y2 k4).length) ((pipesTo x y2 k4).flatMap pipC), box b14 62 [.int .i64 ed.a, .int .i64 ed.b, .int .u64 ed.c0, .int .u64 ed.c1, .int .u64 ed.b0, .int .u64 ed.r0, .int .u64 ed.b1, .int .u64 ed.r1]]) (fun (_ : Unit) => [.int .i64 0, .pointer (some ⟨b14, 2, none⟩), .pointer (some ⟨b14, 2, none⟩), .int .u64 ed.c0, .slice Ar x.edges.length cr, .int .i64 (k4 : Nat), .int .i64 0, ptrA Ar (k4 * 2), ptrA Ar (k4 * 2), .int .u64 f.c0, .bool true]) [(3, [], [10]), (7, [], [8, 9, 10]), (8, [7], [9, 10]), (9, [7, 8], [10]), (10, [3, 7, 8, 9], [])] () rfl (by kernel_rfl) (by kernel_rfl) F S.drew ?_ ?_ ?_ ?_ ?_
      · rintro ⟨⟩; rfl
      · rintro ⟨⟩; kernel_rfl
      ·
       intro D D' x h
       cases x
       rfl
      ·
       refine ⟨?_, ?_⟩
       ·
        refine ⟨_, rfl, rfl, by kernel_rfl, ?_⟩
        rintro D ⟨⟩ a z S F
        refine ⟨by kernel_rfl, ?_⟩
        exact op_load _ _ (some ⟨b14, 0, none⟩) 2 (.int .u64 ed.c0) F rfl (by kernel_rfl) (by kernel_rfl) (cBox S 4 rfl (j := 2) rfl) (⟨(), rfl, (SameB.refl _ _ rfl), S⟩)
       refine ⟨?_, ?_⟩
       ·
        refine ⟨_, rfl, rfl, by kernel_rfl, ?_⟩
        rintro D ⟨⟩ a z S F
        refine ⟨by kernel_rfl, ?_⟩
        exact op_index _ 57 _ _ Ar x.edges.length cr k4 2 .i64 F rfl (by kernel_rfl) (by kernel_rfl) (by kernel_rfl) (by kernel_rfl) (by have h9 := get_lt hf; (try simp only [List.length_set] at h9); omega) (row_some S 2 rfl (m := k4) (by have h9 := get_lt hf; (try simp only [List.length_set] at h9); omega)) (⟨(), rfl, (SameB.refl _ _ rfl), S⟩)
       refine ⟨?_, ?_⟩
       ·
        refine ⟨_, rfl, rfl, by kernel_rfl, ?_⟩
        rintro D ⟨⟩ a z S F
        refine ⟨by kernel_rfl, ?_⟩
        exact op_indexArr _ 26 _ _ Ar (k4 * 2) 2 0 1 .i64 F rfl (by kernel_rfl) (by kernel_rfl) (by kernel_rfl) (by kernel_rfl) (by decide) (row_some S 2 rfl (m := k4) (by have h9 := get_lt hf; (try simp only [List.length_set] at h9); omega)) (⟨(), rfl, (SameB.refl _ _ rfl), S⟩)
       refine ⟨?_, ?_⟩
       ·
        refine ⟨_, rfl, rfl, by kernel_rfl, ?_⟩
        rintro D ⟨⟩ a z S F
        refine ⟨by kernel_rfl, ?_⟩
        exact op_load _ _ Ar (k4 * 2) (.int .u64 f.c0) F rfl (by kernel_rfl) (by kernel_rfl) (cRec S 2 resC_len rfl 0 hf rfl) (⟨(), rfl, (SameB.refl _ _ rfl), S⟩)
       refine ⟨?_, ?_⟩
       ·
        refine ⟨_, rfl, rfl, by kernel_rfl, ?_⟩
        rintro D ⟨⟩ a z S F
        refine ⟨by kernel_rfl, ?_⟩
        exact op_pure F (v0 := .bool (decide ((ed.c0 : Int) > (f.c0 : Int)))) (v := .bool true) (by kernel_rfl) (gtrT ht15) ⟨(), rfl, (SameB.refl _ _ rfl), S⟩
       trivial
      ·
       rintro ⟨⟩ a z F S
       have F := F.sub (l := [(12, .slice Ar x.edges.length cr), (15, .int .u64 sm), (17, .slice Ap ((pipesTo x y2 k4).length) cp), (18, .int .i64 (k4 : Nat)), (19, .pointer (some ⟨b14, 0, none⟩)), (20, .int .i64 0), (58, .slice Ae x.edges.length ce), (59, .int .i64 (x.edges.length : Nat)), (60, .int .i64 (k4 : Nat)), (65, .int .i64 0), (78, .bool true)]) ⟨by kernel_rfl, by kernel_rfl, by kernel_rfl, by kernel_rfl, by kernel_rfl, by kernel_rfl, by kernel_rfl, by kernel_rfl, by kernel_rfl, by kernel_rfl, by kernel_rfl, trivial⟩
       have S : Sat w z [rest w (· < w.heap.size), box b1 32 [.slice As x.spots.length cs, .slice Ae x.edges.length ce], row 57 2 (.slice Ar x.edges.length cr) x.edges.length (y2.edges.flatMap resC), row 145 3 (.slice Ap ((pipesTo x y2 k4).length) cp) ((pipesTo x y2 k4).length) ((pipesTo x y2 k4).flatMap pipC), box b14 62 [.int .i64 ed.a, .int .i64 ed.b, .int .u64 ed.c0, .int .u64 ed.c1, .int .u64 ed.b0, .int .u64 ed.r0, .int .u64 ed.b1, .int .u64 ed.r1]] := S
       refine then_n ?_
       refine c_t F rfl ?_
       have S := S.pushEmp
       refine region_gx (fun D => fun ((b16, A17, c18) : Nat × Option Addr × Nat) => [rest w (· < w.heap.size), box b1 32 [.slice As x.spots.length cs, .slice Ae x.edges.length ce], row 57 2 (.slice Ar x.edges.length cr) x.edges.length (y2.edges.flatMap resC), bif D 19 then row 145 3 (.slice A17 (((pipesTo x y2 k4) ++ ([(⟨(k4 : Nat), ed.a, ed.c0 - f.c0⟩ : Pip)] : List Pip)).length) c18) (((pipesTo x y2 k4) ++ ([(⟨(k4 : Nat), ed.a, ed.c0 - f.c0⟩ : Pip)] : List Pip)).length) (((pipesTo x y2 k4) ++ ([(⟨(k4 : Nat), ed.a, ed.c0 - f.c0⟩ : Pip)] : List Pip)).flatMap pipC) else row 145 3 (.slice Ap ((pipesTo x y2 k4).length) cp) ((pipesTo x y2 k4).length) ((pipesTo x y2 k4).flatMap pipC), box b14 62 [.int .i64 ed.a, .int .i64 ed.b, .int .u64 ed.c0, .int .u64 ed.c1, .int .u64 ed.b0, .int .u64 ed.r0, .int .u64 ed.b1, .int .u64 ed.r1], bif D 18 then row 145 3 (.slice (some ⟨b16, 0, none⟩) 1 1) 1 (([(⟨(k4 : Nat), ed.a, ed.c0 - f.c0⟩ : Pip)] : List Pip).flatMap pipC) else emp]) (fun ((b16, A17, c18) : Nat × Option Addr × Nat) => [.slice Ap ((pipesTo x y2 k4).length) cp, .int .i64 (k4 : Nat), .int .i64 0, .pointer (some ⟨b14, 0, none⟩), .pointer (some ⟨b14, 0, none⟩), .int .i64 ed.a, .int .i64 0, .pointer (some ⟨b14, 2, none⟩), .pointer (some ⟨b14, 2, none⟩), .int .u64 ed.c0, .slice Ar x.edges.length cr, .int .i64 (k4 : Nat), .int .i64 0, ptrA Ar (k4 * 2), ptrA Ar (k4 * 2), .int .u64 f.c0, .int .u64 (ed.c0 - f.c0), .agg #[.int .i64 (k4 : Nat), .int .i64 ed.a, .int .u64 (ed.c0 - f.c0)], .slice (some ⟨b16, 0, none⟩) 1 1, .slice A17 (((pipesTo x y2 k4) ++ ([(⟨(k4 : Nat), ed.a, ed.c0 - f.c0⟩ : Pip)] : List Pip)).length) c18, .slice A17 (((pipesTo x y2 k4) ++ ([(⟨(k4 : Nat), ed.a, ed.c0 - f.c0⟩ : Pip)] : List Pip)).length) c18]) [(5, [], [18, 19]), (9, [], [16, 18, 19]), (13, [], [14, 15, 16, 18, 19]), (14, [13], [15, 16, 18, 19]), (15, [13, 14], [16, 18, 19]), (16, [9, 13, 14, 15], [18, 19]), (18, [5, 9, 13, 14, 15, 16], [19]), (19, [5, 9, 13, 14, 15, 16, 18], [])] (0, none, 0) rfl (by kernel_rfl) (by kernel_rfl) F S.drew ?_ ?_ ?_ ?_ ?_
       · rintro ⟨b16, A17, c18⟩; rfl
       · rintro ⟨b16, A17, c18⟩; kernel_rfl
       ·
        intro D D' x h
        obtain ⟨b16, A17, c18⟩ := x
        simp only [h 18 (by decide), h 19 (by decide)]
       ·
        refine ⟨?_, ?_⟩
        ·
         refine ⟨_, rfl, rfl, by kernel_rfl, ?_⟩
         rintro D ⟨b16, A17, c18⟩ a z S F
         refine ⟨by kernel_rfl, ?_⟩
         exact op_load _ _ (some ⟨b14, 0, none⟩) 0 (.int .i64 ed.a) F rfl (by kernel_rfl) (by kernel_rfl) (cBox S 4 rfl (j := 0) rfl) (⟨(b16, A17, c18), rfl, (SameB.refl _ _ rfl), S⟩)
        refine ⟨?_, ?_⟩
        ·
         refine ⟨_, rfl, rfl, by kernel_rfl, ?_⟩
         rintro D ⟨b16, A17, c18⟩ a z S F
         refine ⟨by kernel_rfl, ?_⟩
         exact op_load _ _ (some ⟨b14, 0, none⟩) 2 (.int .u64 ed.c0) F rfl (by kernel_rfl) (by kernel_rfl) (cBox S 4 rfl (j := 2) rfl) (⟨(b16, A17, c18), rfl, (SameB.refl _ _ rfl), S⟩)
        refine ⟨?_, ?_⟩
        ·
         refine ⟨_, rfl, rfl, by kernel_rfl, ?_⟩
         rintro D ⟨b16, A17, c18⟩ a z S F
         refine ⟨by kernel_rfl, ?_⟩
         exact op_index _ 57 _ _ Ar x.edges.length cr k4 2 .i64 F rfl (by kernel_rfl) (by kernel_rfl) (by kernel_rfl) (by kernel_rfl) (by have h9 := get_lt hf; (try simp only [List.length_set] at h9); omega) (row_some S 2 rfl (m := k4) (by have h9 := get_lt hf; (try simp only [List.length_set] at h9); omega)) (⟨(b16, A17, c18), rfl, (SameB.refl _ _ rfl), S⟩)
        refine ⟨?_, ?_⟩
        ·
         refine ⟨_, rfl, rfl, by kernel_rfl, ?_⟩
         rintro D ⟨b16, A17, c18⟩ a z S F
         refine ⟨by kernel_rfl, ?_⟩
         exact op_indexArr _ 26 _ _ Ar (k4 * 2) 2 0 1 .i64 F rfl (by kernel_rfl) (by kernel_rfl) (by kernel_rfl) (by kernel_rfl) (by decide) (row_some S 2 rfl (m := k4) (by have h9 := get_lt hf; (try simp only [List.length_set] at h9); omega)) (⟨(b16, A17, c18), rfl, (SameB.refl _ _ rfl), S⟩)
        refine ⟨?_, ?_⟩
        ·
         refine ⟨_, rfl, rfl, by kernel_rfl, ?_⟩
         rintro D ⟨b16, A17, c18⟩ a z S F
         refine ⟨by kernel_rfl, ?_⟩
         exact op_load _ _ Ar (k4 * 2) (.int .u64 f.c0) F rfl (by kernel_rfl) (by kernel_rfl) (cRec S 2 resC_len rfl 0 hf rfl) (⟨(b16, A17, c18), rfl, (SameB.refl _ _ rfl), S⟩)
        refine ⟨?_, ?_⟩
        ·
         refine ⟨_, rfl, rfl, by kernel_rfl, ?_⟩
         rintro D ⟨b16, A17, c18⟩ a z S F
         refine ⟨by kernel_rfl, ?_⟩
         exact op_pure F (v0 := .int .u64 (IntKind.wrap .u64 (ed.c0 - f.c0))) (v := .int .u64 (ed.c0 - f.c0)) (by kernel_rfl) (wr_u64 (by omega) (by omega)) ⟨(b16, A17, c18), rfl, (SameB.refl _ _ rfl), S⟩
        refine ⟨?_, ?_⟩
        ·
         refine ⟨_, rfl, rfl, by kernel_rfl, ?_⟩
         rintro D ⟨b16, A17, c18⟩ a z S F
         refine ⟨by kernel_rfl, ?_⟩
         exact op_buildSliceF S 5 rfl _ 1 _ 145 3 pipC ([(⟨(k4 : Nat), ed.a, ed.c0 - f.c0⟩ : Pip)] : List Pip) F rfl (by kernel_rfl) (by kernel_rfl) (by kernel_rfl) (by unfold maxLen; omega) fun y19 z S => ⟨(y19, A17, c18), rfl, ⟨rfl, rfl, rfl, rfl, rfl, rfl, rfl, rfl, rfl, rfl, rfl, rfl, rfl, rfl, rfl, rfl, rfl, rfl, trivial, trivial, trivial, trivial⟩, S⟩
        refine ⟨?_, ?_⟩
        ·
         refine ⟨_, rfl, rfl, by kernel_rfl, ?_⟩
         rintro D ⟨b16, A17, c18⟩ a z S F
         refine ⟨by kernel_rfl, ?_⟩
         exact op_append S 3 _ _ _ 145 (.agg #[.int .i64 0, .int .i64 0, .int .u64 0]) 3 24 (pipesTo x y2 k4) ([(⟨(k4 : Nat), ed.a, ed.c0 - f.c0⟩ : Pip)] : List Pip) pipC (some ⟨b16, 0, none⟩) 1 F pipC_len (fun _ => rfl) rfl rfl (by kernel_rfl) (by kernel_rfl) rfl rfl rfl (by kernel_rfl) (by kernel_rfl) (row_none (S.rowOf (i := 5) rfl)) (src_row (S.rowOf (i := 5) rfl)) (by first | omega | (simp <;> omega)) fun y20 y21 z S => ⟨(b16, y20, y21), rfl, ⟨rfl, rfl, rfl, rfl, rfl, rfl, rfl, rfl, rfl, rfl, rfl, rfl, rfl, rfl, rfl, rfl, rfl, rfl, rfl, trivial, trivial, trivial⟩, S⟩
        trivial
       ·
        rintro ⟨b16, A17, c18⟩ a z F S
        have F := F.sub (l := [(12, .slice Ar x.edges.length cr), (15, .int .u64 sm), (17, .slice A17 (((pipesTo x y2 k4) ++ ([(⟨(k4 : Nat), ed.a, ed.c0 - f.c0⟩ : Pip)] : List Pip)).length) c18), (18, .int .i64 (k4 : Nat)), (19, .pointer (some ⟨b14, 0, none⟩)), (58, .slice Ae x.edges.length ce), (59, .int .i64 (x.edges.length : Nat)), (60, .int .i64 (k4 : Nat)), (65, .int .i64 0)]) ⟨by kernel_rfl, by kernel_rfl, by kernel_rfl, by kernel_rfl, by kernel_rfl, by kernel_rfl, by kernel_rfl, by kernel_rfl, by kernel_rfl, trivial⟩
        have S : Sat w z [rest w (· < w.heap.size), box b1 32 [.slice As x.spots.length cs, .slice Ae x.edges.length ce], row 57 2 (.slice Ar x.edges.length cr) x.edges.length (y2.edges.flatMap resC), row 145 3 (.slice A17 (((pipesTo x y2 k4) ++ ([(⟨(k4 : Nat), ed.a, ed.c0 - f.c0⟩ : Pip)] : List Pip)).length) c18) (((pipesTo x y2 k4) ++ ([(⟨(k4 : Nat), ed.a, ed.c0 - f.c0⟩ : Pip)] : List Pip)).length) (((pipesTo x y2 k4) ++ ([(⟨(k4 : Nat), ed.a, ed.c0 - f.c0⟩ : Pip)] : List Pip)).flatMap pipC), box b14 62 [.int .i64 ed.a, .int .i64 ed.b, .int .u64 ed.c0, .int .u64 ed.c1, .int .u64 ed.b0, .int .u64 ed.r0, .int .u64 ed.b1, .int .u64 ed.r1], row 145 3 (.slice (some ⟨b16, 0, none⟩) 1 1) 1 (([(⟨(k4 : Nat), ed.a, ed.c0 - f.c0⟩ : Pip)] : List Pip).flatMap pipC)] := S
        refine inb_n ?_
        refine then_n ?_
        refine wp_region_list ?_
        refine l_pure 2 (fun L => (65, .int .i64 1) :: (99, .int .i64 1) :: L) F (by kernel_rfl) fun a F => ?_
        refine l_then ?_
        refine rnd ?_
        refine s_reg ?_
        refine l_pure 1 (fun L => (66, .bool true) :: L) F (by kernel_rfl) fun a F => ?_
        refine l_then ?_
        refine wp_seq ?_
        refine c_t F rfl ?_
        refine wp_skip ?_
        refine then_n ?_
        refine wp_seq ?_
        refine wp_block ?_
        refine s_reg ?_
        refine l_pure 2 (fun L => (20, .int .i64 1) :: (67, .int .i64 1) :: L) F (by kernel_rfl) fun a F => ?_
        refine l_then ?_
        refine wp_seq ?_
        by_cases ht22 : (f.c1 : Int) < (ed.c1 : Int)
        ·
         skip
         refine region_gx (fun D => fun (_ : Unit) => [rest w (· < w.heap.size), box b1 32 [.slice As x.spots.length cs, .slice Ae x.edges.length ce], row 57 2 (.slice Ar x.edges.length cr) x.edges.length (y2.edges.flatMap resC), row 145 3 (.slice A17 (((pipesTo x y2 k4) ++ ([(⟨(k4 : Nat), ed.a, ed.c0 - f.c0⟩ : Pip)] : List Pip)).length) c18) (((pipesTo x y2 k4) ++ ([(⟨(k4 : Nat), ed.a, ed.c0 - f.c0⟩ : Pip)] : List Pip)).length) (((pipesTo x y2 k4) ++ ([(⟨(k4 : Nat), ed.a, ed.c0 - f.c0⟩ : Pip)] : List Pip)).flatMap pipC), box b14 62 [.int .i64 ed.a, .int .i64 ed.b, .int .u64 ed.c0, .int .u64 ed.c1, .int .u64 ed.b0, .int .u64 ed.r0, .int .u64 ed.b1, .int .u64 ed.r1], row 145 3 (.slice (some ⟨b16, 0, none⟩) 1 1) 1 (([(⟨(k4 : Nat), ed.a, ed.c0 - f.c0⟩ : Pip)] : List Pip).flatMap pipC)]) (fun (_ : Unit) => [.int .i64 1, .pointer (some ⟨b14, 2, none⟩), .pointer (some ⟨b14, 3, none⟩), .int .u64 ed.c1, .slice Ar x.edges.length cr, .int .i64 (k4 : Nat), .int .i64 1, ptrA Ar (k4 * 2), ptrA Ar (k4 * 2 + 1), .int .u64 f.c1, .bool true]) [(3, [], [10]), (7, [], [8, 9, 10]), (8, [7], [9, 10]), (9, [7, 8], [10]), (10, [3, 7, 8, 9], [])] () rfl (by kernel_rfl) (by kernel_rfl) F S.drew ?_ ?_ ?_ ?_ ?_
         · rintro ⟨⟩; rfl
         · rintro ⟨⟩; kernel_rfl
         ·
          intro D D' x h
          cases x
          rfl
         ·
          refine ⟨?_, ?_⟩
          ·
           refine ⟨_, rfl, rfl, by kernel_rfl, ?_⟩
           rintro D ⟨⟩ a z S F
           refine ⟨by kernel_rfl, ?_⟩
           exact op_load _ _ (some ⟨b14, 0, none⟩) 3 (.int .u64 ed.c1) F rfl (by kernel_rfl) (by kernel_rfl) (cBox S 4 rfl (j := 3) rfl) (⟨(), rfl, (SameB.refl _ _ rfl), S⟩)
          refine ⟨?_, ?_⟩
          ·
           refine ⟨_, rfl, rfl, by kernel_rfl, ?_⟩
           rintro D ⟨⟩ a z S F
           refine ⟨by kernel_rfl, ?_⟩
           exact op_index _ 57 _ _ Ar x.edges.length cr k4 2 .i64 F rfl (by kernel_rfl) (by kernel_rfl) (by kernel_rfl) (by kernel_rfl) (by have h9 := get_lt hf; (try simp only [List.length_set] at h9); omega) (row_some S 2 rfl (m := k4) (by have h9 := get_lt hf; (try simp only [List.length_set] at h9); omega)) (⟨(), rfl, (SameB.refl _ _ rfl), S⟩)
          refine ⟨?_, ?_⟩
          ·
           refine ⟨_, rfl, rfl, by kernel_rfl, ?_⟩
           rintro D ⟨⟩ a z S F
           refine ⟨by kernel_rfl, ?_⟩
           exact op_indexArr _ 26 _ _ Ar (k4 * 2) 2 1 1 .i64 F rfl (by kernel_rfl) (by kernel_rfl) (by kernel_rfl) (by kernel_rfl) (by decide) (row_some S 2 rfl (m := k4) (by have h9 := get_lt hf; (try simp only [List.length_set] at h9); omega)) (⟨(), rfl, (SameB.refl _ _ rfl), S⟩)
          refine ⟨?_, ?_⟩
          ·
           refine ⟨_, rfl, rfl, by kernel_rfl, ?_⟩
           rintro D ⟨⟩ a z S F
           refine ⟨by kernel_rfl, ?_⟩
           exact op_load _ _ Ar (k4 * 2 + 1) (.int .u64 f.c1) F rfl (by kernel_rfl) (by kernel_rfl) (cRec S 2 resC_len rfl 1 hf rfl) (⟨(), rfl, (SameB.refl _ _ rfl), S⟩)
          refine ⟨?_, ?_⟩
          ·
           refine ⟨_, rfl, rfl, by kernel_rfl, ?_⟩
           rintro D ⟨⟩ a z S F
           refine ⟨by kernel_rfl, ?_⟩
           exact op_pure F (v0 := .bool (decide ((ed.c1 : Int) > (f.c1 : Int)))) (v := .bool true) (by kernel_rfl) (gtrT ht22) ⟨(), rfl, (SameB.refl _ _ rfl), S⟩
          trivial
         ·
          rintro ⟨⟩ a z F S
          have F := F.sub (l := [(12, .slice Ar x.edges.length cr), (15, .int .u64 sm), (17, .slice A17 (((pipesTo x y2 k4) ++ ([(⟨(k4 : Nat), ed.a, ed.c0 - f.c0⟩ : Pip)] : List Pip)).length) c18), (18, .int .i64 (k4 : Nat)), (19, .pointer (some ⟨b14, 0, none⟩)), (20, .int .i64 1), (58, .slice Ae x.edges.length ce), (59, .int .i64 (x.edges.length : Nat)), (60, .int .i64 (k4 : Nat)), (65, .int .i64 1), (78, .bool true)]) ⟨by kernel_rfl, by kernel_rfl, by kernel_rfl, by kernel_rfl, by kernel_rfl, by kernel_rfl, by kernel_rfl, by kernel_rfl, by kernel_rfl, by kernel_rfl, by kernel_rfl, trivial⟩
          have S : Sat w z [rest w (· < w.heap.size), box b1 32 [.slice As x.spots.length cs, .slice Ae x.edges.length ce], row 57 2 (.slice Ar x.edges.length cr) x.edges.length (y2.edges.flatMap resC), row 145 3 (.slice A17 (((pipesTo x y2 k4) ++ ([(⟨(k4 : Nat), ed.a, ed.c0 - f.c0⟩ : Pip)] : List Pip)).length) c18) (((pipesTo x y2 k4) ++ ([(⟨(k4 : Nat), ed.a, ed.c0 - f.c0⟩ : Pip)] : List Pip)).length) (((pipesTo x y2 k4) ++ ([(⟨(k4 : Nat), ed.a, ed.c0 - f.c0⟩ : Pip)] : List Pip)).flatMap pipC), box b14 62 [.int .i64 ed.a, .int .i64 ed.b, .int .u64 ed.c0, .int .u64 ed.c1, .int .u64 ed.b0, .int .u64 ed.r0, .int .u64 ed.b1, .int .u64 ed.r1], row 145 3 (.slice (some ⟨b16, 0, none⟩) 1 1) 1 (([(⟨(k4 : Nat), ed.a, ed.c0 - f.c0⟩ : Pip)] : List Pip).flatMap pipC)] := S
          refine then_n ?_
          refine c_t F rfl ?_
          have S := S.pushEmp
          refine region_gx (fun D => fun ((b23, A24, c25) : Nat × Option Addr × Nat) => [rest w (· < w.heap.size), box b1 32 [.slice As x.spots.length cs, .slice Ae x.edges.length ce], row 57 2 (.slice Ar x.edges.length cr) x.edges.length (y2.edges.flatMap resC), bif D 19 then row 145 3 (.slice A24 ((((pipesTo x y2 k4) ++ ([(⟨(k4 : Nat), ed.a, ed.c0 - f.c0⟩ : Pip)] : List Pip)) ++ ([(⟨(k4 : Nat), ed.b, ed.c1 - f.c1⟩ : Pip)] : List Pip)).length) c25) ((((pipesTo x y2 k4) ++ ([(⟨(k4 : Nat), ed.a, ed.c0 - f.c0⟩ : Pip)] : List Pip)) ++ ([(⟨(k4 : Nat), ed.b, ed.c1 - f.c1⟩ : Pip)] : List Pip)).length) ((((pipesTo x y2 k4) ++ ([(⟨(k4 : Nat), ed.a, ed.c0 - f.c0⟩ : Pip)] : List Pip)) ++ ([(⟨(k4 : Nat), ed.b, ed.c1 - f.c1⟩ : Pip)] : List Pip)).flatMap pipC) else row 145 3 (.slice A17 (((pipesTo x y2 k4) ++ ([(⟨(k4 : Nat), ed.a, ed.c0 - f.c0⟩ : Pip)] : List Pip)).length) c18) (((pipesTo x y2 k4) ++ ([(⟨(k4 : Nat), ed.a, ed.c0 - f.c0⟩ : Pip)] : List Pip)).length) (((pipesTo x y2 k4) ++ ([(⟨(k4 : Nat), ed.a, ed.c0 - f.c0⟩ : Pip)] : List Pip)).flatMap pipC), box b14 62 [.int .i64 ed.a, .int .i64 ed.b, .int .u64 ed.c0, .int .u64 ed.c1, .int .u64 ed.b0, .int .u64 ed.r0, .int .u64 ed.b1, .int .u64 ed.r1], row 145 3 (.slice (some ⟨b16, 0, none⟩) 1 1) 1 (([(⟨(k4 : Nat), ed.a, ed.c0 - f.c0⟩ : Pip)] : List Pip).flatMap pipC), bif D 18 then row 145 3 (.slice (some ⟨b23, 0, none⟩) 1 1) 1 (([(⟨(k4 : Nat), ed.b, ed.c1 - f.c1⟩ : Pip)] : List Pip).flatMap pipC) else emp]) (fun ((b23, A24, c25) : Nat × Option Addr × Nat) => [.slice A17 (((pipesTo x y2 k4) ++ ([(⟨(k4 : Nat), ed.a, ed.c0 - f.c0⟩ : Pip)] : List Pip)).length) c18, .int .i64 (k4 : Nat), .int .i64 1, .pointer (some ⟨b14, 0, none⟩), .pointer (some ⟨b14, 1, none⟩), .int .i64 ed.b, .int .i64 1, .pointer (some ⟨b14, 2, none⟩), .pointer (some ⟨b14, 3, none⟩), .int .u64 ed.c1, .slice Ar x.edges.length cr, .int .i64 (k4 : Nat), .int .i64 1, ptrA Ar (k4 * 2), ptrA Ar (k4 * 2 + 1), .int .u64 f.c1, .int .u64 (ed.c1 - f.c1), .agg #[.int .i64 (k4 : Nat), .int .i64 ed.b, .int .u64 (ed.c1 - f.c1)], .slice (some ⟨b23, 0, none⟩) 1 1, .slice A24 ((((pipesTo x y2 k4) ++ ([(⟨(k4 : Nat), ed.a, ed.c0 - f.c0⟩ : Pip)] : List Pip)) ++ ([(⟨(k4 : Nat), ed.b, ed.c1 - f.c1⟩ : Pip)] : List Pip)).length) c25, .slice A24 ((((pipesTo x y2 k4) ++ ([(⟨(k4 : Nat), ed.a, ed.c0 - f.c0⟩ : Pip)] : List Pip)) ++ ([(⟨(k4 : Nat), ed.b, ed.c1 - f.c1⟩ : Pip)] : List Pip)).length) c25]) [(5, [], [18, 19]), (9, [], [16, 18, 19]), (13, [], [14, 15, 16, 18, 19]), (14, [13], [15, 16, 18, 19]), (15, [13, 14], [16, 18, 19]), (16, [9, 13, 14, 15], [18, 19]), (18, [5, 9, 13, 14, 15, 16], [19]), (19, [5, 9, 13, 14, 15, 16, 18], [])] (0, none, 0) rfl (by kernel_rfl) (by kernel_rfl) F S.drew ?_ ?_ ?_ ?_ ?_
          · rintro ⟨b23, A24, c25⟩; rfl
          · rintro ⟨b23, A24, c25⟩; kernel_rfl
          ·
           intro D D' x h
           obtain ⟨b23, A24, c25⟩ := x
           simp only [h 18 (by decide), h 19 (by decide)]
          ·
           refine ⟨?_, ?_⟩
           ·
            refine ⟨_, rfl, rfl, by kernel_rfl, ?_⟩
            rintro D ⟨b23, A24, c25⟩ a z S F
            refine ⟨by kernel_rfl, ?_⟩
            exact op_load _ _ (some ⟨b14, 0, none⟩) 1 (.int .i64 ed.b) F rfl (by kernel_rfl) (by kernel_rfl) (cBox S 4 rfl (j := 1) rfl) (⟨(b23, A24, c25), rfl, (SameB.refl _ _ rfl), S⟩)
           refine ⟨?_, ?_⟩
           ·
            refine ⟨_, rfl, rfl, by kernel_rfl, ?_⟩
            rintro D ⟨b23, A24, c25⟩ a z S F
            refine ⟨by kernel_rfl, ?_⟩
            exact op_load _ _ (some ⟨b14, 0, none⟩) 3 (.int .u64 ed.c1) F rfl (by kernel_rfl) (by kernel_rfl) (cBox S 4 rfl (j := 3) rfl) (⟨(b23, A24, c25), rfl, (SameB.refl _ _ rfl), S⟩)
           refine ⟨?_, ?_⟩
           ·
            refine ⟨_, rfl, rfl, by kernel_rfl, ?_⟩
            rintro D ⟨b23, A24, c25⟩ a z S F
            refine ⟨by kernel_rfl, ?_⟩
            exact op_index _ 57 _ _ Ar x.edges.length cr k4 2 .i64 F rfl (by kernel_rfl) (by kernel_rfl) (by kernel_rfl) (by kernel_rfl) (by have h9 := get_lt hf; (try simp only [List.length_set] at h9); omega) (row_some S 2 rfl (m := k4) (by have h9 := get_lt hf; (try simp only [List.length_set] at h9); omega)) (⟨(b23, A24, c25), rfl, (SameB.refl _ _ rfl), S⟩)
           refine ⟨?_, ?_⟩
           ·
            refine ⟨_, rfl, rfl, by kernel_rfl, ?_⟩
            rintro D ⟨b23, A24, c25⟩ a z S F
            refine ⟨by kernel_rfl, ?_⟩
            exact op_indexArr _ 26 _ _ Ar (k4 * 2) 2 1 1 .i64 F rfl (by kernel_rfl) (by kernel_rfl) (by kernel_rfl) (by kernel_rfl) (by decide) (row_some S 2 rfl (m := k4) (by have h9 := get_lt hf; (try simp only [List.length_set] at h9); omega)) (⟨(b23, A24, c25), rfl, (SameB.refl _ _ rfl), S⟩)
           refine ⟨?_, ?_⟩
           ·
            refine ⟨_, rfl, rfl, by kernel_rfl, ?_⟩
            rintro D ⟨b23, A24, c25⟩ a z S F
            refine ⟨by kernel_rfl, ?_⟩
            exact op_load _ _ Ar (k4 * 2 + 1) (.int .u64 f.c1) F rfl (by kernel_rfl) (by kernel_rfl) (cRec S 2 resC_len rfl 1 hf rfl) (⟨(b23, A24, c25), rfl, (SameB.refl _ _ rfl), S⟩)
           refine ⟨?_, ?_⟩
           ·
            refine ⟨_, rfl, rfl, by kernel_rfl, ?_⟩
            rintro D ⟨b23, A24, c25⟩ a z S F
            refine ⟨by kernel_rfl, ?_⟩
            exact op_pure F (v0 := .int .u64 (IntKind.wrap .u64 (ed.c1 - f.c1))) (v := .int .u64 (ed.c1 - f.c1)) (by kernel_rfl) (wr_u64 (by omega) (by omega)) ⟨(b23, A24, c25), rfl, (SameB.refl _ _ rfl), S⟩
           refine ⟨?_, ?_⟩
           ·
            refine ⟨_, rfl, rfl, by kernel_rfl, ?_⟩
            rintro D ⟨b23, A24, c25⟩ a z S F
            refine ⟨by kernel_rfl, ?_⟩
            exact op_buildSliceF S 6 rfl _ 1 _ 145 3 pipC ([(⟨(k4 : Nat), ed.b, ed.c1 - f.c1⟩ : Pip)] : List Pip) F rfl (by kernel_rfl) (by kernel_rfl) (by kernel_rfl) (by unfold maxLen; omega) fun y26 z S => ⟨(y26, A24, c25), rfl, ⟨rfl, rfl, rfl, rfl, rfl, rfl, rfl, rfl, rfl, rfl, rfl, rfl, rfl, rfl, rfl, rfl, rfl, rfl, trivial, trivial, trivial, trivial⟩, S⟩
           refine ⟨?_, ?_⟩
           ·
            refine ⟨_, rfl, rfl, by kernel_rfl, ?_⟩
            rintro D ⟨b23, A24, c25⟩ a z S F
            refine ⟨by kernel_rfl, ?_⟩
            exact op_append S 3 _ _ _ 145 (.agg #[.int .i64 0, .int .i64 0, .int .u64 0]) 3 24 ((pipesTo x y2 k4) ++ ([(⟨(k4 : Nat), ed.a, ed.c0 - f.c0⟩ : Pip)] : List Pip)) ([(⟨(k4 : Nat), ed.b, ed.c1 - f.c1⟩ : Pip)] : List Pip) pipC (some ⟨b23, 0, none⟩) 1 F pipC_len (fun _ => rfl) rfl rfl (by kernel_rfl) (by kernel_rfl) rfl rfl rfl (by kernel_rfl) (by kernel_rfl) (row_none (S.rowOf (i := 6) rfl)) (src_row (S.rowOf (i := 6) rfl)) (by first | omega | (simp <;> omega)) fun y27 y28 z S => ⟨(b23, y27, y28), rfl, ⟨rfl, rfl, rfl, rfl, rfl, rfl, rfl, rfl, rfl, rfl, rfl, rfl, rfl, rfl, rfl, rfl, rfl, rfl, rfl, trivial, trivial, trivial⟩, S⟩
           trivial
          ·
           rintro ⟨b23, A24, c25⟩ a z F S
           have F := F.sub (l := [(12, .slice Ar x.edges.length cr), (15, .int .u64 sm), (17, .slice A24 ((((pipesTo x y2 k4) ++ ([(⟨(k4 : Nat), ed.a, ed.c0 - f.c0⟩ : Pip)] : List Pip)) ++ ([(⟨(k4 : Nat), ed.b, ed.c1 - f.c1⟩ : Pip)] : List Pip)).length) c25), (18, .int .i64 (k4 : Nat)), (19, .pointer (some ⟨b14, 0, none⟩)), (58, .slice Ae x.edges.length ce), (59, .int .i64 (x.edges.length : Nat)), (60, .int .i64 (k4 : Nat)), (65, .int .i64 1)]) ⟨by kernel_rfl, by kernel_rfl, by kernel_rfl, by kernel_rfl, by kernel_rfl, by kernel_rfl, by kernel_rfl, by kernel_rfl, by kernel_rfl, trivial⟩
           have S : Sat w z [rest w (· < w.heap.size), box b1 32 [.slice As x.spots.length cs, .slice Ae x.edges.length ce], row 57 2 (.slice Ar x.edges.length cr) x.edges.length (y2.edges.flatMap resC), row 145 3 (.slice A24 ((((pipesTo x y2 k4) ++ ([(⟨(k4 : Nat), ed.a, ed.c0 - f.c0⟩ : Pip)] : List Pip)) ++ ([(⟨(k4 : Nat), ed.b, ed.c1 - f.c1⟩ : Pip)] : List Pip)).length) c25) ((((pipesTo x y2 k4) ++ ([(⟨(k4 : Nat), ed.a, ed.c0 - f.c0⟩ : Pip)] : List Pip)) ++ ([(⟨(k4 : Nat), ed.b, ed.c1 - f.c1⟩ : Pip)] : List Pip)).length) ((((pipesTo x y2 k4) ++ ([(⟨(k4 : Nat), ed.a, ed.c0 - f.c0⟩ : Pip)] : List Pip)) ++ ([(⟨(k4 : Nat), ed.b, ed.c1 - f.c1⟩ : Pip)] : List Pip)).flatMap pipC), box b14 62 [.int .i64 ed.a, .int .i64 ed.b, .int .u64 ed.c0, .int .u64 ed.c1, .int .u64 ed.b0, .int .u64 ed.r0, .int .u64 ed.b1, .int .u64 ed.r1], row 145 3 (.slice (some ⟨b16, 0, none⟩) 1 1) 1 (([(⟨(k4 : Nat), ed.a, ed.c0 - f.c0⟩ : Pip)] : List Pip).flatMap pipC), row 145 3 (.slice (some ⟨b23, 0, none⟩) 1 1) 1 (([(⟨(k4 : Nat), ed.b, ed.c1 - f.c1⟩ : Pip)] : List Pip).flatMap pipC)] := S
           refine inb_n ?_
           refine then_n ?_
           refine wp_region_list ?_
           refine l_pure 2 (fun L => (65, .int .i64 2) :: (99, .int .i64 2) :: L) F (by kernel_rfl) fun a F => ?_
           refine l_then ?_
           refine rnd ?_
           refine s_reg ?_
           refine l_pure 1 (fun L => (66, .bool false) :: L) F (by kernel_rfl) fun a F => ?_
           refine l_then ?_
           refine wp_seq ?_
           refine c_f F rfl ?_
           refine wp_exit ?_
           refine then_x ?_
           refine then_x ?_
           refine inb_x ?_
           refine inb_n ?_
           refine then_n ?_
           refine wp_region_list ?_
           refine l_do F rfl rfl (op_pure F (v0 := .int .i64 (IntKind.wrap .i64 ((k4 : Nat) + 1))) (v := .int .i64 (k4 + 1 : Nat)) (by kernel_rfl) (wrn_i64 (by omega) (by omega) (by omega)) fun a F => ?_)
           refine l_pure 1 (fun L => (60, .int .i64 (k4 + 1 : Nat)) :: L) F (by kernel_rfl) fun a F => ?_
           refine l_then ?_
           have hsn : (((pipesTo x y2 k4) ++ ([(⟨(k4 : Nat), ed.a, ed.c0 - f.c0⟩ : Pip)] : List Pip)) ++ ([(⟨(k4 : Nat), ed.b, ed.c1 - f.c1⟩ : Pip)] : List Pip)) = (pipesTo x y2 (k4 + 1)) := by
             rw [pipes_snoc hed hf]; unfold pipe1; rw [if_pos ht15, if_pos ht22]; simp
           rw [hsn] at F S
           exact ⟨_, (by omega), k4 + 1, A24, c25, rfl, (by omega), F.sub ⟨by kernel_rfl, by kernel_rfl, by kernel_rfl, by kernel_rfl, by kernel_rfl, by kernel_rfl, trivial⟩, (S.pick [0, 1, 2, 3] (by decide))⟩
        ·
         skip
         refine region_gx (fun D => fun (_ : Unit) => [rest w (· < w.heap.size), box b1 32 [.slice As x.spots.length cs, .slice Ae x.edges.length ce], row 57 2 (.slice Ar x.edges.length cr) x.edges.length (y2.edges.flatMap resC), row 145 3 (.slice A17 (((pipesTo x y2 k4) ++ ([(⟨(k4 : Nat), ed.a, ed.c0 - f.c0⟩ : Pip)] : List Pip)).length) c18) (((pipesTo x y2 k4) ++ ([(⟨(k4 : Nat), ed.a, ed.c0 - f.c0⟩ : Pip)] : List Pip)).length) (((pipesTo x y2 k4) ++ ([(⟨(k4 : Nat), ed.a, ed.c0 - f.c0⟩ : Pip)] : List Pip)).flatMap pipC), box b14 62 [.int .i64 ed.a, .int .i64 ed.b, .int .u64 ed.c0, .int .u64 ed.c1, .int .u64 ed.b0, .int .u64 ed.r0, .int .u64 ed.b1, .int .u64 ed.r1], row 145 3 (.slice (some ⟨b16, 0, none⟩) 1 1) 1 (([(⟨(k4 : Nat), ed.a, ed.c0 - f.c0⟩ : Pip)] : List Pip).flatMap pipC)]) (fun (_ : Unit) => [.int .i64 1, .pointer (some ⟨b14, 2, none⟩), .pointer (some ⟨b14, 3, none⟩), .int .u64 ed.c1, .slice Ar x.edges.length cr, .int .i64 (k4 : Nat), .int .i64 1, ptrA Ar (k4 * 2), ptrA Ar (k4 * 2 + 1), .int .u64 f.c1, .bool false]) [(3, [], [10]), (7, [], [8, 9, 10]), (8, [7], [9, 10]), (9, [7, 8], [10]), (10, [3, 7, 8, 9], [])] () rfl (by kernel_rfl) (by kernel_rfl) F S.drew ?_ ?_ ?_ ?_ ?_
         · rintro ⟨⟩; rfl
         · rintro ⟨⟩; kernel_rfl
         ·
          intro D D' x h
          cases x
          rfl
         ·
          refine ⟨?_, ?_⟩
          ·
           refine ⟨_, rfl, rfl, by kernel_rfl, ?_⟩
           rintro D ⟨⟩ a z S F
           refine ⟨by kernel_rfl, ?_⟩
           exact op_load _ _ (some ⟨b14, 0, none⟩) 3 (.int .u64 ed.c1) F rfl (by kernel_rfl) (by kernel_rfl) (cBox S 4 rfl (j := 3) rfl) (⟨(), rfl, (SameB.refl _ _ rfl), S⟩)
          refine ⟨?_, ?_⟩
          ·
           refine ⟨_, rfl, rfl, by kernel_rfl, ?_⟩
           rintro D ⟨⟩ a z S F
           refine ⟨by kernel_rfl, ?_⟩
           exact op_index _ 57 _ _ Ar x.edges.length cr k4 2 .i64 F rfl (by kernel_rfl) (by kernel_rfl) (by kernel_rfl) (by kernel_rfl) (by have h9 := get_lt hf; (try simp only [List.length_set] at h9); omega) (row_some S 2 rfl (m := k4) (by have h9 := get_lt hf; (try simp only [List.length_set] at h9); omega)) (⟨(), rfl, (SameB.refl _ _ rfl), S⟩)
          refine ⟨?_, ?_⟩
          ·
           refine ⟨_, rfl, rfl, by kernel_rfl, ?_⟩
           rintro D ⟨⟩ a z S F
           refine ⟨by kernel_rfl, ?_⟩
           exact op_indexArr _ 26 _ _ Ar (k4 * 2) 2 1 1 .i64 F rfl (by kernel_rfl) (by kernel_rfl) (by kernel_rfl) (by kernel_rfl) (by decide) (row_some S 2 rfl (m := k4) (by have h9 := get_lt hf; (try simp only [List.length_set] at h9); omega)) (⟨(), rfl, (SameB.refl _ _ rfl), S⟩)
          refine ⟨?_, ?_⟩
          ·
           refine ⟨_, rfl, rfl, by kernel_rfl, ?_⟩
           rintro D ⟨⟩ a z S F
           refine ⟨by kernel_rfl, ?_⟩
           exact op_load _ _ Ar (k4 * 2 + 1) (.int .u64 f.c1) F rfl (by kernel_rfl) (by kernel_rfl) (cRec S 2 resC_len rfl 1 hf rfl) (⟨(), rfl, (SameB.refl _ _ rfl), S⟩)
          refine ⟨?_, ?_⟩
          ·
           refine ⟨_, rfl, rfl, by kernel_rfl, ?_⟩
           rintro D ⟨⟩ a z S F
           refine ⟨by kernel_rfl, ?_⟩
           exact op_pure F (v0 := .bool (decide ((ed.c1 : Int) > (f.c1 : Int)))) (v := .bool false) (by kernel_rfl) (gtrF ht22) ⟨(), rfl, (SameB.refl _ _ rfl), S⟩
          trivial
         ·
          rintro ⟨⟩ a z F S
          have F := F.sub (l := [(12, .slice Ar x.edges.length cr), (15, .int .u64 sm), (17, .slice A17 (((pipesTo x y2 k4) ++ ([(⟨(k4 : Nat), ed.a, ed.c0 - f.c0⟩ : Pip)] : List Pip)).length) c18), (18, .int .i64 (k4 : Nat)), (19, .pointer (some ⟨b14, 0, none⟩)), (20, .int .i64 1), (58, .slice Ae x.edges.length ce), (59, .int .i64 (x.edges.length : Nat)), (60, .int .i64 (k4 : Nat)), (65, .int .i64 1), (78, .bool false)]) ⟨by kernel_rfl, by kernel_rfl, by kernel_rfl, by kernel_rfl, by kernel_rfl, by kernel_rfl, by kernel_rfl, by kernel_rfl, by kernel_rfl, by kernel_rfl, by kernel_rfl, trivial⟩
          have S : Sat w z [rest w (· < w.heap.size), box b1 32 [.slice As x.spots.length cs, .slice Ae x.edges.length ce], row 57 2 (.slice Ar x.edges.length cr) x.edges.length (y2.edges.flatMap resC), row 145 3 (.slice A17 (((pipesTo x y2 k4) ++ ([(⟨(k4 : Nat), ed.a, ed.c0 - f.c0⟩ : Pip)] : List Pip)).length) c18) (((pipesTo x y2 k4) ++ ([(⟨(k4 : Nat), ed.a, ed.c0 - f.c0⟩ : Pip)] : List Pip)).length) (((pipesTo x y2 k4) ++ ([(⟨(k4 : Nat), ed.a, ed.c0 - f.c0⟩ : Pip)] : List Pip)).flatMap pipC), box b14 62 [.int .i64 ed.a, .int .i64 ed.b, .int .u64 ed.c0, .int .u64 ed.c1, .int .u64 ed.b0, .int .u64 ed.r0, .int .u64 ed.b1, .int .u64 ed.r1], row 145 3 (.slice (some ⟨b16, 0, none⟩) 1 1) 1 (([(⟨(k4 : Nat), ed.a, ed.c0 - f.c0⟩ : Pip)] : List Pip).flatMap pipC)] := S
          refine then_n ?_
          refine c_f F rfl ?_
          refine wp_skip ?_
          refine inb_n ?_
          refine then_n ?_
          refine wp_region_list ?_
          refine l_pure 2 (fun L => (65, .int .i64 2) :: (99, .int .i64 2) :: L) F (by kernel_rfl) fun a F => ?_
          refine l_then ?_
          refine rnd ?_
          refine s_reg ?_
          refine l_pure 1 (fun L => (66, .bool false) :: L) F (by kernel_rfl) fun a F => ?_
          refine l_then ?_
          refine wp_seq ?_
          refine c_f F rfl ?_
          refine wp_exit ?_
          refine then_x ?_
          refine then_x ?_
          refine inb_x ?_
          refine inb_n ?_
          refine then_n ?_
          refine wp_region_list ?_
          refine l_do F rfl rfl (op_pure F (v0 := .int .i64 (IntKind.wrap .i64 ((k4 : Nat) + 1))) (v := .int .i64 (k4 + 1 : Nat)) (by kernel_rfl) (wrn_i64 (by omega) (by omega) (by omega)) fun a F => ?_)
          refine l_pure 1 (fun L => (60, .int .i64 (k4 + 1 : Nat)) :: L) F (by kernel_rfl) fun a F => ?_
          refine l_then ?_
          have hsn : ((pipesTo x y2 k4) ++ ([(⟨(k4 : Nat), ed.a, ed.c0 - f.c0⟩ : Pip)] : List Pip)) = (pipesTo x y2 (k4 + 1)) := by
            rw [pipes_snoc hed hf]; unfold pipe1; rw [if_pos ht15, if_neg ht22]; simp
          rw [hsn] at F S
          exact ⟨_, (by omega), k4 + 1, A17, c18, rfl, (by omega), F.sub ⟨by kernel_rfl, by kernel_rfl, by kernel_rfl, by kernel_rfl, by kernel_rfl, by kernel_rfl, trivial⟩, (S.pick [0, 1, 2, 3] (by decide))⟩
     ·
      skip
      refine region_gx (fun D => fun (_ : Unit) => [rest w (· < w.heap.size), box b1 32 [.slice As x.spots.length cs, .slice Ae x.edges.length ce], row 57 2 (.slice Ar x.edges.length cr) x.edges.length (y2.edges.flatMap resC), row 145 3 (.slice Ap ((pipesTo x y2 k4).length) cp) ((pipesTo x y2 k4).length) ((pipesTo x y2 k4).flatMap pipC), box b14 62 [.int .i64 ed.a, .int .i64 ed.b, .int .u64 ed.c0, .int .u64 ed.c1, .int .u64 ed.b0, .int .u64 ed.r0, .int .u64 ed.b1, .int .u64 ed.r1]]) (fun (_ : Unit) => [.int .i64 0, .pointer (some ⟨b14, 2, none⟩), .pointer (some ⟨b14, 2, none⟩), .int .u64 ed.c0, .slice Ar x.edges.length cr, .int .i64 (k4 : Nat), .int .i64 0, ptrA Ar (k4 * 2), ptrA Ar (k4 * 2), .int .u64 f.c0, .bool false]) [(3, [], [10]), (7, [], [8, 9, 10]), (8, [7], [9, 10]), (9, [7, 8], [10]), (10, [3, 7, 8, 9], [])] () rfl (by kernel_rfl) (by kernel_rfl) F S.drew ?_ ?_ ?_ ?_ ?_
      · rintro ⟨⟩; rfl
      · rintro ⟨⟩; kernel_rfl
      ·
       intro D D' x h
       cases x
       rfl
      ·
       refine ⟨?_, ?_⟩
       ·
        refine ⟨_, rfl, rfl, by kernel_rfl, ?_⟩
        rintro D ⟨⟩ a z S F
        refine ⟨by kernel_rfl, ?_⟩
        exact op_load _ _ (some ⟨b14, 0, none⟩) 2 (.int .u64 ed.c0) F rfl (by kernel_rfl) (by kernel_rfl) (cBox S 4 rfl (j := 2) rfl) (⟨(), rfl, (SameB.refl _ _ rfl), S⟩)
       refine ⟨?_, ?_⟩
       ·
        refine ⟨_, rfl, rfl, by kernel_rfl, ?_⟩
        rintro D ⟨⟩ a z S F
        refine ⟨by kernel_rfl, ?_⟩
        exact op_index _ 57 _ _ Ar x.edges.length cr k4 2 .i64 F rfl (by kernel_rfl) (by kernel_rfl) (by kernel_rfl) (by kernel_rfl) (by have h9 := get_lt hf; (try simp only [List.length_set] at h9); omega) (row_some S 2 rfl (m := k4) (by have h9 := get_lt hf; (try simp only [List.length_set] at h9); omega)) (⟨(), rfl, (SameB.refl _ _ rfl), S⟩)
       refine ⟨?_, ?_⟩
       ·
        refine ⟨_, rfl, rfl, by kernel_rfl, ?_⟩
        rintro D ⟨⟩ a z S F
        refine ⟨by kernel_rfl, ?_⟩
        exact op_indexArr _ 26 _ _ Ar (k4 * 2) 2 0 1 .i64 F rfl (by kernel_rfl) (by kernel_rfl) (by kernel_rfl) (by kernel_rfl) (by decide) (row_some S 2 rfl (m := k4) (by have h9 := get_lt hf; (try simp only [List.length_set] at h9); omega)) (⟨(), rfl, (SameB.refl _ _ rfl), S⟩)
       refine ⟨?_, ?_⟩
       ·
        refine ⟨_, rfl, rfl, by kernel_rfl, ?_⟩
        rintro D ⟨⟩ a z S F
        refine ⟨by kernel_rfl, ?_⟩
        exact op_load _ _ Ar (k4 * 2) (.int .u64 f.c0) F rfl (by kernel_rfl) (by kernel_rfl) (cRec S 2 resC_len rfl 0 hf rfl) (⟨(), rfl, (SameB.refl _ _ rfl), S⟩)
       refine ⟨?_, ?_⟩
       ·
        refine ⟨_, rfl, rfl, by kernel_rfl, ?_⟩
        rintro D ⟨⟩ a z S F
        refine ⟨by kernel_rfl, ?_⟩
        exact op_pure F (v0 := .bool (decide ((ed.c0 : Int) > (f.c0 : Int)))) (v := .bool false) (by kernel_rfl) (gtrF ht15) ⟨(), rfl, (SameB.refl _ _ rfl), S⟩
       trivial
      ·
       rintro ⟨⟩ a z F S
       have F := F.sub (l := [(12, .slice Ar x.edges.length cr), (15, .int .u64 sm), (17, .slice Ap ((pipesTo x y2 k4).length) cp), (18, .int .i64 (k4 : Nat)), (19, .pointer (some ⟨b14, 0, none⟩)), (20, .int .i64 0), (58, .slice Ae x.edges.length ce), (59, .int .i64 (x.edges.length : Nat)), (60, .int .i64 (k4 : Nat)), (65, .int .i64 0), (78, .bool false)]) ⟨by kernel_rfl, by kernel_rfl, by kernel_rfl, by kernel_rfl, by kernel_rfl, by kernel_rfl, by kernel_rfl, by kernel_rfl, by kernel_rfl, by kernel_rfl, by kernel_rfl, trivial⟩
       have S : Sat w z [rest w (· < w.heap.size), box b1 32 [.slice As x.spots.length cs, .slice Ae x.edges.length ce], row 57 2 (.slice Ar x.edges.length cr) x.edges.length (y2.edges.flatMap resC), row 145 3 (.slice Ap ((pipesTo x y2 k4).length) cp) ((pipesTo x y2 k4).length) ((pipesTo x y2 k4).flatMap pipC), box b14 62 [.int .i64 ed.a, .int .i64 ed.b, .int .u64 ed.c0, .int .u64 ed.c1, .int .u64 ed.b0, .int .u64 ed.r0, .int .u64 ed.b1, .int .u64 ed.r1]] := S
       refine then_n ?_
       refine c_f F rfl ?_
       refine wp_skip ?_
       refine inb_n ?_
       refine then_n ?_
       refine wp_region_list ?_
       refine l_pure 2 (fun L => (65, .int .i64 1) :: (99, .int .i64 1) :: L) F (by kernel_rfl) fun a F => ?_
       refine l_then ?_
       refine rnd ?_
       refine s_reg ?_
       refine l_pure 1 (fun L => (66, .bool true) :: L) F (by kernel_rfl) fun a F => ?_
       refine l_then ?_
       refine wp_seq ?_
       refine c_t F rfl ?_
       refine wp_skip ?_
       refine then_n ?_
       refine wp_seq ?_
       refine wp_block ?_
       refine s_reg ?_
       refine l_pure 2 (fun L => (20, .int .i64 1) :: (67, .int .i64 1) :: L) F (by kernel_rfl) fun a F => ?_
       refine l_then ?_
       refine wp_seq ?_
       by_cases ht29 : (f.c1 : Int) < (ed.c1 : Int)
       ·
        skip
        refine region_gx (fun D => fun (_ : Unit) => [rest w (· < w.heap.size), box b1 32 [.slice As x.spots.length cs, .slice Ae x.edges.length ce], row 57 2 (.slice Ar x.edges.length cr) x.edges.length (y2.edges.flatMap resC), row 145 3 (.slice Ap ((pipesTo x y2 k4).length) cp) ((pipesTo x y2 k4).length) ((pipesTo x y2 k4).flatMap pipC), box b14 62 [.int .i64 ed.a, .int .i64 ed.b, .int .u64 ed.c0, .int .u64 ed.c1, .int .u64 ed.b0, .int .u64 ed.r0, .int .u64 ed.b1, .int .u64 ed.r1]]) (fun (_ : Unit) => [.int .i64 1, .pointer (some ⟨b14, 2, none⟩), .pointer (some ⟨b14, 3, none⟩), .int .u64 ed.c1, .slice Ar x.edges.length cr, .int .i64 (k4 : Nat), .int .i64 1, ptrA Ar (k4 * 2), ptrA Ar (k4 * 2 + 1), .int .u64 f.c1, .bool true]) [(3, [], [10]), (7, [], [8, 9, 10]), (8, [7], [9, 10]), (9, [7, 8], [10]), (10, [3, 7, 8, 9], [])] () rfl (by kernel_rfl) (by kernel_rfl) F S.drew ?_ ?_ ?_ ?_ ?_
        · rintro ⟨⟩; rfl
        · rintro ⟨⟩; kernel_rfl
        ·
         intro D D' x h
         cases x
         rfl
        ·
         refine ⟨?_, ?_⟩
         ·
          refine ⟨_, rfl, rfl, by kernel_rfl, ?_⟩
          rintro D ⟨⟩ a z S F
          refine ⟨by kernel_rfl, ?_⟩
          exact op_load _ _ (some ⟨b14, 0, none⟩) 3 (.int .u64 ed.c1) F rfl (by kernel_rfl) (by kernel_rfl) (cBox S 4 rfl (j := 3) rfl) (⟨(), rfl, (SameB.refl _ _ rfl), S⟩)
         refine ⟨?_, ?_⟩
         ·
          refine ⟨_, rfl, rfl, by kernel_rfl, ?_⟩
          rintro D ⟨⟩ a z S F
          refine ⟨by kernel_rfl, ?_⟩
          exact op_index _ 57 _ _ Ar x.edges.length cr k4 2 .i64 F rfl (by kernel_rfl) (by kernel_rfl) (by kernel_rfl) (by kernel_rfl) (by have h9 := get_lt hf; (try simp only [List.length_set] at h9); omega) (row_some S 2 rfl (m := k4) (by have h9 := get_lt hf; (try simp only [List.length_set] at h9); omega)) (⟨(), rfl, (SameB.refl _ _ rfl), S⟩)
         refine ⟨?_, ?_⟩
         ·
          refine ⟨_, rfl, rfl, by kernel_rfl, ?_⟩
          rintro D ⟨⟩ a z S F
          refine ⟨by kernel_rfl, ?_⟩
          exact op_indexArr _ 26 _ _ Ar (k4 * 2) 2 1 1 .i64 F rfl (by kernel_rfl) (by kernel_rfl) (by kernel_rfl) (by kernel_rfl) (by decide) (row_some S 2 rfl (m := k4) (by have h9 := get_lt hf; (try simp only [List.length_set] at h9); omega)) (⟨(), rfl, (SameB.refl _ _ rfl), S⟩)
         refine ⟨?_, ?_⟩
         ·
          refine ⟨_, rfl, rfl, by kernel_rfl, ?_⟩
          rintro D ⟨⟩ a z S F
          refine ⟨by kernel_rfl, ?_⟩
          exact op_load _ _ Ar (k4 * 2 + 1) (.int .u64 f.c1) F rfl (by kernel_rfl) (by kernel_rfl) (cRec S 2 resC_len rfl 1 hf rfl) (⟨(), rfl, (SameB.refl _ _ rfl), S⟩)
         refine ⟨?_, ?_⟩
         ·
          refine ⟨_, rfl, rfl, by kernel_rfl, ?_⟩
          rintro D ⟨⟩ a z S F
          refine ⟨by kernel_rfl, ?_⟩
          exact op_pure F (v0 := .bool (decide ((ed.c1 : Int) > (f.c1 : Int)))) (v := .bool true) (by kernel_rfl) (gtrT ht29) ⟨(), rfl, (SameB.refl _ _ rfl), S⟩
         trivial
        ·
         rintro ⟨⟩ a z F S
         have F := F.sub (l := [(12, .slice Ar x.edges.length cr), (15, .int .u64 sm), (17, .slice Ap ((pipesTo x y2 k4).length) cp), (18, .int .i64 (k4 : Nat)), (19, .pointer (some ⟨b14, 0, none⟩)), (20, .int .i64 1), (58, .slice Ae x.edges.length ce), (59, .int .i64 (x.edges.length : Nat)), (60, .int .i64 (k4 : Nat)), (65, .int .i64 1), (78, .bool true)]) ⟨by kernel_rfl, by kernel_rfl, by kernel_rfl, by kernel_rfl, by kernel_rfl, by kernel_rfl, by kernel_rfl, by kernel_rfl, by kernel_rfl, by kernel_rfl, by kernel_rfl, trivial⟩
         have S : Sat w z [rest w (· < w.heap.size), box b1 32 [.slice As x.spots.length cs, .slice Ae x.edges.length ce], row 57 2 (.slice Ar x.edges.length cr) x.edges.length (y2.edges.flatMap resC), row 145 3 (.slice Ap ((pipesTo x y2 k4).length) cp) ((pipesTo x y2 k4).length) ((pipesTo x y2 k4).flatMap pipC), box b14 62 [.int .i64 ed.a, .int .i64 ed.b, .int .u64 ed.c0, .int .u64 ed.c1, .int .u64 ed.b0, .int .u64 ed.r0, .int .u64 ed.b1, .int .u64 ed.r1]] := S
         refine then_n ?_
         refine c_t F rfl ?_
         have S := S.pushEmp
         refine region_gx (fun D => fun ((b30, A31, c32) : Nat × Option Addr × Nat) => [rest w (· < w.heap.size), box b1 32 [.slice As x.spots.length cs, .slice Ae x.edges.length ce], row 57 2 (.slice Ar x.edges.length cr) x.edges.length (y2.edges.flatMap resC), bif D 19 then row 145 3 (.slice A31 (((pipesTo x y2 k4) ++ ([(⟨(k4 : Nat), ed.b, ed.c1 - f.c1⟩ : Pip)] : List Pip)).length) c32) (((pipesTo x y2 k4) ++ ([(⟨(k4 : Nat), ed.b, ed.c1 - f.c1⟩ : Pip)] : List Pip)).length) (((pipesTo x y2 k4) ++ ([(⟨(k4 : Nat), ed.b, ed.c1 - f.c1⟩ : Pip)] : List Pip)).flatMap pipC) else row 145 3 (.slice Ap ((pipesTo x y2 k4).length) cp) ((pipesTo x y2 k4).length) ((pipesTo x y2 k4).flatMap pipC), box b14 62 [.int .i64 ed.a, .int .i64 ed.b, .int .u64 ed.c0, .int .u64 ed.c1, .int .u64 ed.b0, .int .u64 ed.r0, .int .u64 ed.b1, .int .u64 ed.r1], bif D 18 then row 145 3 (.slice (some ⟨b30, 0, none⟩) 1 1) 1 (([(⟨(k4 : Nat), ed.b, ed.c1 - f.c1⟩ : Pip)] : List Pip).flatMap pipC) else emp]) (fun ((b30, A31, c32) : Nat × Option Addr × Nat) => [.slice Ap ((pipesTo x y2 k4).length) cp, .int .i64 (k4 : Nat), .int .i64 1, .pointer (some ⟨b14, 0, none⟩), .pointer (some ⟨b14, 1, none⟩), .int .i64 ed.b, .int .i64 1, .pointer (some ⟨b14, 2, none⟩), .pointer (some ⟨b14, 3, none⟩), .int .u64 ed.c1, .slice Ar x.edges.length cr, .int .i64 (k4 : Nat), .int .i64 1, ptrA Ar (k4 * 2), ptrA Ar (k4 * 2 + 1), .int .u64 f.c1, .int .u64 (ed.c1 - f.c1), .agg #[.int .i64 (k4 : Nat), .int .i64 ed.b, .int .u64 (ed.c1 - f.c1)], .slice (some ⟨b30, 0, none⟩) 1 1, .slice A31 (((pipesTo x y2 k4) ++ ([(⟨(k4 : Nat), ed.b, ed.c1 - f.c1⟩ : Pip)] : List Pip)).length) c32, .slice A31 (((pipesTo x y2 k4) ++ ([(⟨(k4 : Nat), ed.b, ed.c1 - f.c1⟩ : Pip)] : List Pip)).length) c32]) [(5, [], [18, 19]), (9, [], [16, 18, 19]), (13, [], [14, 15, 16, 18, 19]), (14, [13], [15, 16, 18, 19]), (15, [13, 14], [16, 18, 19]), (16, [9, 13, 14, 15], [18, 19]), (18, [5, 9, 13, 14, 15, 16], [19]), (19, [5, 9, 13, 14, 15, 16, 18], [])] (0, none, 0) rfl (by kernel_rfl) (by kernel_rfl) F S.drew ?_ ?_ ?_ ?_ ?_
         · rintro ⟨b30, A31, c32⟩; rfl
         · rintro ⟨b30, A31, c32⟩; kernel_rfl
         ·
          intro D D' x h
          obtain ⟨b30, A31, c32⟩ := x
          simp only [h 18 (by decide), h 19 (by decide)]
         ·
          refine ⟨?_, ?_⟩
          ·
           refine ⟨_, rfl, rfl, by kernel_rfl, ?_⟩
           rintro D ⟨b30, A31, c32⟩ a z S F
           refine ⟨by kernel_rfl, ?_⟩
           exact op_load _ _ (some ⟨b14, 0, none⟩) 1 (.int .i64 ed.b) F rfl (by kernel_rfl) (by kernel_rfl) (cBox S 4 rfl (j := 1) rfl) (⟨(b30, A31, c32), rfl, (SameB.refl _ _ rfl), S⟩)
          refine ⟨?_, ?_⟩
          ·
           refine ⟨_, rfl, rfl, by kernel_rfl, ?_⟩
           rintro D ⟨b30, A31, c32⟩ a z S F
           refine ⟨by kernel_rfl, ?_⟩
           exact op_load _ _ (some ⟨b14, 0, none⟩) 3 (.int .u64 ed.c1) F rfl (by kernel_rfl) (by kernel_rfl) (cBox S 4 rfl (j := 3) rfl) (⟨(b30, A31, c32), rfl, (SameB.refl _ _ rfl), S⟩)
          refine ⟨?_, ?_⟩
          ·
           refine ⟨_, rfl, rfl, by kernel_rfl, ?_⟩
           rintro D ⟨b30, A31, c32⟩ a z S F
           refine ⟨by kernel_rfl, ?_⟩
           exact op_index _ 57 _ _ Ar x.edges.length cr k4 2 .i64 F rfl (by kernel_rfl) (by kernel_rfl) (by kernel_rfl) (by kernel_rfl) (by have h9 := get_lt hf; (try simp only [List.length_set] at h9); omega) (row_some S 2 rfl (m := k4) (by have h9 := get_lt hf; (try simp only [List.length_set] at h9); omega)) (⟨(b30, A31, c32), rfl, (SameB.refl _ _ rfl), S⟩)
          refine ⟨?_, ?_⟩
          ·
           refine ⟨_, rfl, rfl, by kernel_rfl, ?_⟩
           rintro D ⟨b30, A31, c32⟩ a z S F
           refine ⟨by kernel_rfl, ?_⟩
           exact op_indexArr _ 26 _ _ Ar (k4 * 2) 2 1 1 .i64 F rfl (by kernel_rfl) (by kernel_rfl) (by kernel_rfl) (by kernel_rfl) (by decide) (row_some S 2 rfl (m := k4) (by have h9 := get_lt hf; (try simp only [List.length_set] at h9); omega)) (⟨(b30, A31, c32), rfl, (SameB.refl _ _ rfl), S⟩)
          refine ⟨?_, ?_⟩
          ·
           refine ⟨_, rfl, rfl, by kernel_rfl, ?_⟩
           rintro D ⟨b30, A31, c32⟩ a z S F
           refine ⟨by kernel_rfl, ?_⟩
           exact op_load _ _ Ar (k4 * 2 + 1) (.int .u64 f.c1) F rfl (by kernel_rfl) (by kernel_rfl) (cRec S 2 resC_len rfl 1 hf rfl) (⟨(b30, A31, c32), rfl, (SameB.refl _ _ rfl), S⟩)
          refine ⟨?_, ?_⟩
          ·
           refine ⟨_, rfl, rfl, by kernel_rfl, ?_⟩
           rintro D ⟨b30, A31, c32⟩ a z S F
           refine ⟨by kernel_rfl, ?_⟩
           exact op_pure F (v0 := .int .u64 (IntKind.wrap .u64 (ed.c1 - f.c1))) (v := .int .u64 (ed.c1 - f.c1)) (by kernel_rfl) (wr_u64 (by omega) (by omega)) ⟨(b30, A31, c32), rfl, (SameB.refl _ _ rfl), S⟩
          refine ⟨?_, ?_⟩
          ·
           refine ⟨_, rfl, rfl, by kernel_rfl, ?_⟩
           rintro D ⟨b30, A31, c32⟩ a z S F
           refine ⟨by kernel_rfl, ?_⟩
           exact op_buildSliceF S 5 rfl _ 1 _ 145 3 pipC ([(⟨(k4 : Nat), ed.b, ed.c1 - f.c1⟩ : Pip)] : List Pip) F rfl (by kernel_rfl) (by kernel_rfl) (by kernel_rfl) (by unfold maxLen; omega) fun y33 z S => ⟨(y33, A31, c32), rfl, ⟨rfl, rfl, rfl, rfl, rfl, rfl, rfl, rfl, rfl, rfl, rfl, rfl, rfl, rfl, rfl, rfl, rfl, rfl, trivial, trivial, trivial, trivial⟩, S⟩
          refine ⟨?_, ?_⟩
          ·
           refine ⟨_, rfl, rfl, by kernel_rfl, ?_⟩
           rintro D ⟨b30, A31, c32⟩ a z S F
           refine ⟨by kernel_rfl, ?_⟩
           exact op_append S 3 _ _ _ 145 (.agg #[.int .i64 0, .int .i64 0, .int .u64 0]) 3 24 (pipesTo x y2 k4) ([(⟨(k4 : Nat), ed.b, ed.c1 - f.c1⟩ : Pip)] : List Pip) pipC (some ⟨b30, 0, none⟩) 1 F pipC_len (fun _ => rfl) rfl rfl (by kernel_rfl) (by kernel_rfl) rfl rfl rfl (by kernel_rfl) (by kernel_rfl) (row_none (S.rowOf (i := 5) rfl)) (src_row (S.rowOf (i := 5) rfl)) (by first | omega | (simp <;> omega)) fun y34 y35 z S => ⟨(b30, y34, y35), rfl, ⟨rfl, rfl, rfl, rfl, rfl, rfl, rfl, rfl, rfl, rfl, rfl, rfl, rfl, rfl, rfl, rfl, rfl, rfl, rfl, trivial, trivial, trivial⟩, S⟩
          trivial
         ·
          rintro ⟨b30, A31, c32⟩ a z F S
          have F := F.sub (l := [(12, .slice Ar x.edges.length cr), (15, .int .u64 sm), (17, .slice A31 (((pipesTo x y2 k4) ++ ([(⟨(k4 : Nat), ed.b, ed.c1 - f.c1⟩ : Pip)] : List Pip)).length) c32), (18, .int .i64 (k4 : Nat)), (19, .pointer (some ⟨b14, 0, none⟩)), (58, .slice Ae x.edges.length ce), (59, .int .i64 (x.edges.length : Nat)), (60, .int .i64 (k4 : Nat)), (65, .int .i64 1)]) ⟨by kernel_rfl, by kernel_rfl, by kernel_rfl, by kernel_rfl, by kernel_rfl, by kernel_rfl, by kernel_rfl, by kernel_rfl, by kernel_rfl, trivial⟩
          have S : Sat w z [rest w (· < w.heap.size), box b1 32 [.slice As x.spots.length cs, .slice Ae x.edges.length ce], row 57 2 (.slice Ar x.edges.length cr) x.edges.length (y2.edges.flatMap resC), row 145 3 (.slice A31 (((pipesTo x y2 k4) ++ ([(⟨(k4 : Nat), ed.b, ed.c1 - f.c1⟩ : Pip)] : List Pip)).length) c32) (((pipesTo x y2 k4) ++ ([(⟨(k4 : Nat), ed.b, ed.c1 - f.c1⟩ : Pip)] : List Pip)).length) (((pipesTo x y2 k4) ++ ([(⟨(k4 : Nat), ed.b, ed.c1 - f.c1⟩ : Pip)] : List Pip)).flatMap pipC), box b14 62 [.int .i64 ed.a, .int .i64 ed.b, .int .u64 ed.c0, .int .u64 ed.c1, .int .u64 ed.b0, .int .u64 ed.r0, .int .u64 ed.b1, .int .u64 ed.r1], row 145 3 (.slice (some ⟨b30, 0, none⟩) 1 1) 1 (([(⟨(k4 : Nat), ed.b, ed.c1 - f.c1⟩ : Pip)] : List Pip).flatMap pipC)] := S
          refine inb_n ?_
          refine then_n ?_
          refine wp_region_list ?_
          refine l_pure 2 (fun L => (65, .int .i64 2) :: (99, .int .i64 2) :: L) F (by kernel_rfl) fun a F => ?_
          refine l_then ?_
          refine rnd ?_
          refine s_reg ?_
          refine l_pure 1 (fun L => (66, .bool false) :: L) F (by kernel_rfl) fun a F => ?_
          refine l_then ?_
          refine wp_seq ?_
          refine c_f F rfl ?_
          refine wp_exit ?_
          refine then_x ?_
          refine then_x ?_
          refine inb_x ?_
          refine inb_n ?_
          refine then_n ?_
          refine wp_region_list ?_
          refine l_do F rfl rfl (op_pure F (v0 := .int .i64 (IntKind.wrap .i64 ((k4 : Nat) + 1))) (v := .int .i64 (k4 + 1 : Nat)) (by kernel_rfl) (wrn_i64 (by omega) (by omega) (by omega)) fun a F => ?_)
          refine l_pure 1 (fun L => (60, .int .i64 (k4 + 1 : Nat)) :: L) F (by kernel_rfl) fun a F => ?_
          refine l_then ?_
          have hsn : ((pipesTo x y2 k4) ++ ([(⟨(k4 : Nat), ed.b, ed.c1 - f.c1⟩ : Pip)] : List Pip)) = (pipesTo x y2 (k4 + 1)) := by
            rw [pipes_snoc hed hf]; unfold pipe1; rw [if_neg ht15, if_pos ht29]; simp
          rw [hsn] at F S
          exact ⟨_, (by omega), k4 + 1, A31, c32, rfl, (by omega), F.sub ⟨by kernel_rfl, by kernel_rfl, by kernel_rfl, by kernel_rfl, by kernel_rfl, by kernel_rfl, trivial⟩, (S.pick [0, 1, 2, 3] (by decide))⟩
       ·
        skip
        refine region_gx (fun D => fun (_ : Unit) => [rest w (· < w.heap.size), box b1 32 [.slice As x.spots.length cs, .slice Ae x.edges.length ce], row 57 2 (.slice Ar x.edges.length cr) x.edges.length (y2.edges.flatMap resC), row 145 3 (.slice Ap ((pipesTo x y2 k4).length) cp) ((pipesTo x y2 k4).length) ((pipesTo x y2 k4).flatMap pipC), box b14 62 [.int .i64 ed.a, .int .i64 ed.b, .int .u64 ed.c0, .int .u64 ed.c1, .int .u64 ed.b0, .int .u64 ed.r0, .int .u64 ed.b1, .int .u64 ed.r1]]) (fun (_ : Unit) => [.int .i64 1, .pointer (some ⟨b14, 2, none⟩), .pointer (some ⟨b14, 3, none⟩), .int .u64 ed.c1, .slice Ar x.edges.length cr, .int .i64 (k4 : Nat), .int .i64 1, ptrA Ar (k4 * 2), ptrA Ar (k4 * 2 + 1), .int .u64 f.c1, .bool false]) [(3, [], [10]), (7, [], [8, 9, 10]), (8, [7], [9, 10]), (9, [7, 8], [10]), (10, [3, 7, 8, 9], [])] () rfl (by kernel_rfl) (by kernel_rfl) F S.drew ?_ ?_ ?_ ?_ ?_
        · rintro ⟨⟩; rfl
        · rintro ⟨⟩; kernel_rfl
        ·
         intro D D' x h
         cases x
         rfl
        ·
         refine ⟨?_, ?_⟩
         ·
          refine ⟨_, rfl, rfl, by kernel_rfl, ?_⟩
          rintro D ⟨⟩ a z S F
          refine ⟨by kernel_rfl, ?_⟩
          exact op_load _ _ (some ⟨b14, 0, none⟩) 3 (.int .u64 ed.c1) F rfl (by kernel_rfl) (by kernel_rfl) (cBox S 4 rfl (j := 3) rfl) (⟨(), rfl, (SameB.refl _ _ rfl), S⟩)
         refine ⟨?_, ?_⟩
         ·
          refine ⟨_, rfl, rfl, by kernel_rfl, ?_⟩
          rintro D ⟨⟩ a z S F
          refine ⟨by kernel_rfl, ?_⟩
          exact op_index _ 57 _ _ Ar x.edges.length cr k4 2 .i64 F rfl (by kernel_rfl) (by kernel_rfl) (by kernel_rfl) (by kernel_rfl) (by have h9 := get_lt hf; (try simp only [List.length_set] at h9); omega) (row_some S 2 rfl (m := k4) (by have h9 := get_lt hf; (try simp only [List.length_set] at h9); omega)) (⟨(), rfl, (SameB.refl _ _ rfl), S⟩)
         refine ⟨?_, ?_⟩
         ·
          refine ⟨_, rfl, rfl, by kernel_rfl, ?_⟩
          rintro D ⟨⟩ a z S F
          refine ⟨by kernel_rfl, ?_⟩
          exact op_indexArr _ 26 _ _ Ar (k4 * 2) 2 1 1 .i64 F rfl (by kernel_rfl) (by kernel_rfl) (by kernel_rfl) (by kernel_rfl) (by decide) (row_some S 2 rfl (m := k4) (by have h9 := get_lt hf; (try simp only [List.length_set] at h9); omega)) (⟨(), rfl, (SameB.refl _ _ rfl), S⟩)
         refine ⟨?_, ?_⟩
         ·
          refine ⟨_, rfl, rfl, by kernel_rfl, ?_⟩
          rintro D ⟨⟩ a z S F
          refine ⟨by kernel_rfl, ?_⟩
          exact op_load _ _ Ar (k4 * 2 + 1) (.int .u64 f.c1) F rfl (by kernel_rfl) (by kernel_rfl) (cRec S 2 resC_len rfl 1 hf rfl) (⟨(), rfl, (SameB.refl _ _ rfl), S⟩)
         refine ⟨?_, ?_⟩
         ·
          refine ⟨_, rfl, rfl, by kernel_rfl, ?_⟩
          rintro D ⟨⟩ a z S F
          refine ⟨by kernel_rfl, ?_⟩
          exact op_pure F (v0 := .bool (decide ((ed.c1 : Int) > (f.c1 : Int)))) (v := .bool false) (by kernel_rfl) (gtrF ht29) ⟨(), rfl, (SameB.refl _ _ rfl), S⟩
         trivial
        ·
         rintro ⟨⟩ a z F S
         have F := F.sub (l := [(12, .slice Ar x.edges.length cr), (15, .int .u64 sm), (17, .slice Ap ((pipesTo x y2 k4).length) cp), (18, .int .i64 (k4 : Nat)), (19, .pointer (some ⟨b14, 0, none⟩)), (20, .int .i64 1), (58, .slice Ae x.edges.length ce), (59, .int .i64 (x.edges.length : Nat)), (60, .int .i64 (k4 : Nat)), (65, .int .i64 1), (78, .bool false)]) ⟨by kernel_rfl, by kernel_rfl, by kernel_rfl, by kernel_rfl, by kernel_rfl, by kernel_rfl, by kernel_rfl, by kernel_rfl, by kernel_rfl, by kernel_rfl, by kernel_rfl, trivial⟩
         have S : Sat w z [rest w (· < w.heap.size), box b1 32 [.slice As x.spots.length cs, .slice Ae x.edges.length ce], row 57 2 (.slice Ar x.edges.length cr) x.edges.length (y2.edges.flatMap resC), row 145 3 (.slice Ap ((pipesTo x y2 k4).length) cp) ((pipesTo x y2 k4).length) ((pipesTo x y2 k4).flatMap pipC), box b14 62 [.int .i64 ed.a, .int .i64 ed.b, .int .u64 ed.c0, .int .u64 ed.c1, .int .u64 ed.b0, .int .u64 ed.r0, .int .u64 ed.b1, .int .u64 ed.r1]] := S
         refine then_n ?_
         refine c_f F rfl ?_
         refine wp_skip ?_
         refine inb_n ?_
         refine then_n ?_
         refine wp_region_list ?_
         refine l_pure 2 (fun L => (65, .int .i64 2) :: (99, .int .i64 2) :: L) F (by kernel_rfl) fun a F => ?_
         refine l_then ?_
         refine rnd ?_
         refine s_reg ?_
         refine l_pure 1 (fun L => (66, .bool false) :: L) F (by kernel_rfl) fun a F => ?_
         refine l_then ?_
         refine wp_seq ?_
         refine c_f F rfl ?_
         refine wp_exit ?_
         refine then_x ?_
         refine then_x ?_
         refine inb_x ?_
         refine inb_n ?_
         refine then_n ?_
         refine wp_region_list ?_
         refine l_do F rfl rfl (op_pure F (v0 := .int .i64 (IntKind.wrap .i64 ((k4 : Nat) + 1))) (v := .int .i64 (k4 + 1 : Nat)) (by kernel_rfl) (wrn_i64 (by omega) (by omega) (by omega)) fun a F => ?_)
         refine l_pure 1 (fun L => (60, .int .i64 (k4 + 1 : Nat)) :: L) F (by kernel_rfl) fun a F => ?_
         refine l_then ?_
         have hsn : (pipesTo x y2 k4) = (pipesTo x y2 (k4 + 1)) := by
           rw [pipes_snoc hed hf]; unfold pipe1; rw [if_neg ht15, if_neg ht29]; simp
         rw [hsn] at F S
         exact ⟨_, (by omega), k4 + 1, Ap, cp, rfl, (by omega), F.sub ⟨by kernel_rfl, by kernel_rfl, by kernel_rfl, by kernel_rfl, by kernel_rfl, by kernel_rfl, trivial⟩, (S.pick [0, 1, 2, 3] (by decide))⟩
    ·
     skip
     have hk4 : k4 = x.edges.length := by omega
     refine l_do F rfl rfl (op_pure F (v0 := .bool (decide (((k4 : Nat) : Int) < ((x.edges.length : Nat) : Int)))) (v := .bool false) (by kernel_rfl) (lssF ht13) fun a F => ?_)
     refine l_then ?_
     refine wp_seq ?_
     refine c_f F rfl ?_
     refine wp_exit ?_
     refine then_x ?_
     refine then_x ?_
     refine inb_x ?_
     refine then_n ?_
     refine s_reg ?_
     refine l_pure 5 (fun L => (10, .int .i64 0) :: (9, .slice Ap ((pipesTo x y2 k4).length) cp) :: (8, .int .u64 sm) :: (102, .slice Ap ((pipesTo x y2 k4).length) cp) :: (101, .int .u64 sm) :: L) F (by kernel_rfl) fun a F => ?_
     refine l_then ?_
     refine wp_ret ?_
     exact fin F [.tmp 8, .tmp 9, .tmp 10] [.int .u64 sm, .slice Ap ((pipesTo x y2 k4).length) cp, .int .i64 0] rfl ⟨by kernel_rfl, by kernel_rfl, by kernel_rfl, trivial⟩ (.tuple #[.int .u64 sm, .slice Ap ((pipesTo x y2 k4).length) cp, .int .i64 0]) rfl ⟨sm, Ap, cp, pipesTo x y2 k4, by rw [hr], .inr ⟨hr, fr, t, y2, rfl, rfl, hflow, by rw [hk4], hsl, hend⟩, S.pick [0, 3] (by decide)⟩
   ·
    intro hcut15
    dsimp only [tailAt] at hcut15
    refine s_reg ?_
    refine l_pure 1 (fun L => (15, .int .u64 0) :: L) F (by kernel_rfl) fun a F => ?_
    refine l_then ?_
    refine wp_seq ?_
    refine wp_block ?_
    refine wp_loop_m (fun m a z => ∃ (sm : Int) (y2 : Wb), m = (limit - sm).toNat ∧ (FlowAt x y2 fr t sm) ∧ (sm ≤ limit) ∧ Fr a 103 [(1, .int .i64 (fr : Nat)), (2, .int .i64 (t : Nat)), (3, .int .u64 limit), (4, .pointer (some ⟨b1, 0, none⟩)), (12, .slice Ar x.edges.length cr), (15, .int .u64 sm)] ∧ Sat w z [rest w (· < w.heap.size), box b1 32 [.slice As x.spots.length cs, .slice Ae x.edges.length ce], row 57 2 (.slice Ar x.edges.length cr) x.edges.length (y2.edges.flatMap resC)]) _ ⟨0, x, rfl, (flow_start ok fr t), (by have := hl.1; omega), F.sub ⟨by kernel_rfl, by kernel_rfl, by kernel_rfl, by kernel_rfl, by kernel_rfl, by kernel_rfl, trivial⟩, S⟩ ?_
    rintro m a z ⟨sm, y2, hm, hf36, hf37, F, S⟩
    have hflow := hf36
    have hnn := hflow.nn
    have hlu := hl
    unfold U64 at hlu
    refine wp_seq ?_
    refine s_reg ?_
    refine l_pure 2 (fun L => (42, .int .u64 limit) :: (41, .int .u64 sm) :: L) F (by kernel_rfl) fun a F => ?_
    by_cases ht38 : (sm : Int) < (limit : Int)
    ·
     skip
     refine l_do F rfl rfl (op_pure F (v0 := .bool (decide ((sm : Int) < (limit : Int)))) (v := .bool true) (by kernel_rfl) (lssT ht38) fun a F => ?_)
     refine l_then ?_
     refine c_t F rfl ?_
     refine wp_skip ?_
     refine then_n ?_
     refine wp_block ?_
     refine s_reg ?_
     refine l_pure 1 (fun L => (44, .slice Ar x.edges.length cr) :: L) F (by kernel_rfl) fun a F => ?_
     refine l_do F rfl rfl (op_loadK _ _ (some ⟨b1, 0, none⟩) 0 [.slice As x.spots.length cs, .slice Ae x.edges.length ce] F rfl (by kernel_rfl) (by kernel_rfl) (by kernel_rfl) (by simp) (cBoxK S 1 rfl 0 (by kernel_rfl)) (fun a F => ?_))
     refine l_pure 4 (fun L => (49, .int .u64 sm) :: (48, .int .u64 limit) :: (47, .int .i64 (t : Nat)) :: (46, .int .i64 (fr : Nat)) :: L) F (by kernel_rfl) fun a F => ?_
     refine l_do F rfl rfl (op_pure F (v0 := .int .u64 (IntKind.wrap .u64 (limit - sm))) (v := .int .u64 (limit - sm)) (by kernel_rfl) (wr_u64 (by omega) (by omega)) fun a F => ?_)
     obtain ⟨G9, g9, hin9, hlt9, k9⟩ := S.frameB [2] (by decide) rfl
     refine l_do F rfl rfl (op_fn F (by kernel_rfl) (push_any _ G9 As cs Ae ce x (h.move S rfl) ok (InG.rest hin9 0 (by decide) rfl (InG.all h.s.src)) (InG.rest hin9 0 (by decide) rfl (InG.all h.e.src)) Ar cr x.edges.length y2 hflow.res.len.symm hflow.res hc hsum fr t hfr ht (limit - sm) (by unfold U64; omega) (by omega) g9) ?_)
     rintro e z9 ⟨n9, y3, rfl, hpush, g⟩
     have S : Sat w z9 [rest w (· < w.heap.size), box b1 32 [.slice As x.spots.length cs, .slice Ae x.edges.length ce], row 57 2 (.slice Ar x.edges.length cr) x.edges.length (y3.edges.flatMap resC)] := k9 z9 [row 57 2 (.slice Ar x.edges.length cr) x.edges.length (y3.edges.flatMap resC)] rfl g
     clear g g9 k9 hin9 hlt9
     refine ⟨_, rfl, ?_⟩
     intro a F
     refine l_pure 1 (fun L => (16, .int .u64 n9) :: L) F (by kernel_rfl) fun a F => ?_
     refine l_then ?_
     refine wp_seq ?_
     refine s_reg ?_
     refine l_pure 1 (fun L => (52, .int .u64 n9) :: L) F (by kernel_rfl) fun a F => ?_
     by_cases ht39 : (n9 : Int) = (0 : Int)
     ·
      skip
      have hz := flow_zero hpush (by omega)
      refine l_do F rfl rfl (op_pure F (v0 := .bool ((n9 : Int) == (0 : Int))) (v := .bool true) (by kernel_rfl) (eqlT ht39) fun a F => ?_)
      refine l_then ?_
      refine c_t F rfl ?_
      refine wp_exit ?_
      refine then_x ?_
      refine inb_xo (by kernel_rfl) ?_
      refine then_x ?_
      refine inb_x ?_
      refine then_n ?_
      rw [hz.2.1] at S
      exact hcut15 _ _ ⟨sm, y2, hflow, (by omega), (.inr hz.2.2), F.sub ⟨by kernel_rfl, by kernel_rfl, by kernel_rfl, trivial⟩, S⟩
     ·
      skip
      have hn0 := push_nn hpush
      obtain ⟨hf2, hle2⟩ := flow_push hflow hsum hpush (by omega)
      refine l_do F rfl rfl (op_pure F (v0 := .bool ((n9 : Int) == (0 : Int))) (v := .bool false) (by kernel_rfl) (eqlF ht39) fun a F => ?_)
      refine l_then ?_
      refine c_f F rfl ?_
      refine wp_skip ?_
      refine then_n ?_
      refine wp_region_list ?_
      refine l_pure 2 (fun L => (55, .int .u64 n9) :: (54, .int .u64 sm) :: L) F (by kernel_rfl) fun a F => ?_
      refine l_do F rfl rfl (op_pure F (v0 := .int .u64 (IntKind.wrap .u64 (sm + n9))) (v := .int .u64 (sm + n9)) (by kernel_rfl) (wr_u64 (by omega) (by omega)) fun a F => ?_)
      refine l_pure 1 (fun L => (15, .int .u64 (sm + n9)) :: L) F (by kernel_rfl) fun a F => ?_
      refine l_nil (inb_n ?_)
      refine then_n ?_
      exact ⟨_, (by omega), (sm + n9), y3, rfl, hf2, (by omega), F.sub ⟨by kernel_rfl, by kernel_rfl, by kernel_rfl, by kernel_rfl, by kernel_rfl, by kernel_rfl, trivial⟩, S⟩
    ·
     skip
     refine l_do F rfl rfl (op_pure F (v0 := .bool (decide ((sm : Int) < (limit : Int)))) (v := .bool false) (by kernel_rfl) (lssF ht38) fun a F => ?_)
     refine l_then ?_
     refine c_f F rfl ?_
     refine wp_exit ?_
     refine then_x ?_
     refine then_x ?_
     refine inb_x ?_
     refine then_n ?_
     exact hcut15 _ _ ⟨sm, y2, hflow, (by omega), (.inl (by omega)), F.sub ⟨by kernel_rfl, by kernel_rfl, by kernel_rfl, trivial⟩, S⟩
 ·
  skip
  have hr := ht2
  refine l_do F rfl rfl (op_pure F (v0 := .bool ((frightP x from_ to : Int) != (0 : Int))) (v := .bool true) (by kernel_rfl) (neqT ht2) fun a F => ?_)
  refine l_then ?_
  refine c_t F rfl ?_
  refine s_reg ?_
  refine l_pure 4 (fun L => (10, .int .i64 (frightP x from_ to)) :: (9, .slice none 0 0) :: (8, .int .u64 0) :: (27, .int .i64 (frightP x from_ to)) :: L) F (by kernel_rfl) fun a F => ?_
  refine l_then ?_
  refine wp_ret ?_
  refine then_r (?_)
  exact fin F [.tmp 8, .tmp 9, .tmp 10] [.int .u64 0, .slice none 0 0, .int .i64 (frightP x from_ to)] rfl ⟨by kernel_rfl, by kernel_rfl, by kernel_rfl, trivial⟩ (.tuple #[.int .u64 0, .slice none 0 0, .int .i64 (frightP x from_ to)]) rfl ⟨0, none, 0, [], rfl, .inl ⟨hr, rfl, rfl⟩, (S.nilRow 145 3).pick [0, 2] (by decide)⟩
end Go.Proofs.Ytcfpbemoocegfaa
