/- Walks over routes, as the document says: the way that always goes nearer. -/
import Derived.Test.YtcfpbemoocegfaaGreedy
import Derived.Test.YtcfpbemoocegfaaWays
namespace Go.Proofs.Ytcfpbemoocegfaa
set_option linter.unusedVariables false
set_option linter.unusedSimpArgs false
set_option linter.unnecessarySimpa false
open Go Go.RowKit

/-- The last index looked at holds the first that was found. -/
def backE (x : Wb) (n nx am : Int) (i : Nat) : Int := (((stepsP x n).drop i).find? (isTo nx am)).elim (-1) (·.edge)
theorem backE_end (x : Wb) (n nx am : Int) : backE x n nx am (stepsP x n).length = -1 := by unfold backE; rw [List.drop_length]; rfl
theorem backE_step {x : Wb} {n nx am : Int} {i : Nat} {s : Stp} (hs : (stepsP x n)[i]? = some s) : (isTo nx am s = true → backE x n nx am i = s.edge) ∧ (isTo nx am s = false → backE x n nx am i = backE x n nx am (i + 1)) := by
  obtain ⟨hi, he⟩ := List.getElem?_eq_some_iff.1 hs
  have hd : (stepsP x n).drop i = s :: (stepsP x n).drop (i + 1) := by rw [← he]; exact List.drop_eq_getElem_cons hi
  unfold backE
  rw [hd, List.find?_cons]
  refine ⟨fun h => by rw [h]; rfl, fun h => by rw [h]⟩
theorem find_ix : ∀ (L : List Stp) (p : Stp → Bool), L.find? p = L[L.findIdx p]?
  | [], p => rfl
  | s :: L, p => by
    rw [List.find?_cons, List.findIdx_cons]
    cases h : p s with
    | true => simp
    | false => simp [find_ix L p]
theorem backE_zero {x : Wb} {n nx am : Int} (h : ixTo x n nx am < (stepsP x n).length) : backE x n nx am 0 = edgeTo x n nx am := by
  unfold backE edgeTo
  rw [List.drop_zero, find_ix, List.getD_eq_getElem?_getD]
  unfold ixTo at h ⊢
  rw [List.getElem?_eq_getElem h]; rfl
theorem rnear_at {x : Wb} {n am nv : Int} {t : Int × Int} (hnv : nearP x n t am = nv) (w : World) (As : Option Addr) (cs : Nat) (Ae : Option Addr) (ce : Nat) (h : WebAt w As cs Ae ce x) (ok : x.Ok) : Calls Try.prog 72 #[.agg #[.slice As x.spots.length cs, .slice Ae x.edges.length ce], .int .i64 n, .agg #[.int .i64 t.1, .int .i64 t.2], .int .u64 am] w fun e w' => e = .returned (.int .i64 nv) ∧ Below w.heap.size w w' := hnv ▸ rneighbour_any w As cs Ae ce x h ok n t am
set_option maxRecDepth 100000 in
set_option maxHeartbeats 4000000 in
theorem rgreedy_any (w : World) (As : Option Addr) (cs : Nat) (Ae : Option Addr) (ce : Nat) (x : Wb) (h : WebAt w As cs Ae ce x) (ok : x.Ok) (from_ to am : Int) (hua : U64 am) (hs1 : x.spots.length ≤ 1000) : Calls Try.prog 33 #[.agg #[.slice As x.spots.length cs, .slice Ae x.edges.length ce], .int .i64 from_, .int .i64 to, .int .u64 am] w fun e w' => ∃ m : RtM, e = .returned (.tuple #[.agg #[.slice m.A1 m.r.nodes.length m.c1, .slice m.A2 m.r.edges.length m.c2, .slice m.A3 m.r.amts.length m.c3], .int .i64 (greedyP x from_ to am).2]) ∧ m.r = (greedyP x from_ to am).1 ∧ Sat w w' [rest w (· < w.heap.size), bag ([m].flatMap rtRows)] := by
  refine enter 138 Try.func33 rfl rfl rfl fun a F => ?_
  have S := Sat.pushRest w
  refine s_reg ?_
  refine l_do F rfl rfl (op_box S _ _ (.agg #[.slice As x.spots.length cs, .slice Ae x.edges.length ce]) F rfl (by kernel_rfl) fun b1 z S a F => ?_)
  refine l_do F rfl rfl (op_alloc S _ (.agg #[.slice none 0 0, .slice none 0 0, .slice none 0 0]) rfl (by kernel_rfl) fun b2 z S a F => ?_)
  refine l_pure 1 (fun L => (9, .int .i64 0) :: L) F (by kernel_rfl) fun a F => ?_
  refine l_then ?_
  refine s_reg ?_
  refine l_do F rfl rfl (op_loadK _ _ (some ⟨b1, 0, none⟩) 0 [.slice As x.spots.length cs, .slice Ae x.edges.length ce] F rfl (by kernel_rfl) (by kernel_rfl) (by kernel_rfl) (by simp) (cBoxK S 1 rfl 0 (by kernel_rfl)) (fun a F => ?_))
  refine l_pure 3 (fun L => (23, .int .u64 am) :: (22, .int .i64 to) :: (21, .int .i64 from_) :: L) F (by kernel_rfl) fun a F => ?_
  refine l_do F rfl rfl (op_fn F (by kernel_rfl) (rright_any _ As cs Ae ce x (h.move S rfl) ok from_ to am hs1) ?_)
  rintro e z ⟨rfl, hb⟩
  have S := S.grow hb
  refine ⟨_, rfl, ?_⟩
  intro a F
  refine l_pure 1 (fun L => (10, .int .i64 (rightP x from_ to am)) :: L) F (by kernel_rfl) fun a F => ?_
  refine l_then ?_
  refine wp_seq ?_
  refine s_reg ?_
  refine l_pure 1 (fun L => (25, .int .i64 (rightP x from_ to am)) :: L) F (by kernel_rfl) fun a F => ?_
  by_cases ht3 : (rightP x from_ to am : Int) = (0 : Int)
  · skip
    have hr := ht3
    obtain ⟨hc9, hb9⟩ := right_zero hr
    obtain ⟨fr, rfl⟩ : ∃ fr : Nat, from_ = fr := ⟨from_.toNat, by omega⟩
    obtain ⟨tq, rfl⟩ : ∃ tq : Nat, to = tq := ⟨to.toNat, by omega⟩
    obtain ⟨gq, hgq⟩ : ∃ gq, x.spots[tq]? = some gq := ⟨_, List.getElem?_eq_getElem (by omega)⟩
    have hgoal : goalP x (tq : Nat) = gq := by unfold goalP; rw [Int.toNat_natCast, List.getD_eq_getElem?_getD, hgq]; rfl
    refine l_do F rfl rfl (op_pure F (v0 := .bool ((rightP x (fr : Nat) (tq : Nat) am : Int) != (0 : Int))) (v := .bool false) (by kernel_rfl) (neqF hr) fun a F => ?_)
    refine l_then ?_
    refine c_f F rfl ?_
    refine wp_skip ?_
    refine then_n ?_
    refine s_reg ?_
    refine l_pure 1 (fun L => (29, .int .i64 (fr : Nat)) :: L) F (by kernel_rfl) fun a F => ?_
    refine l_do F rfl rfl (op_buildSlice S _ 1 _ 3 1 iC_i64 ([(fr : Nat)] : List Int) F rfl (by kernel_rfl) (by kernel_rfl) (by kernel_rfl) (by unfold maxLen; omega) fun b4 z S a F => ?_)
    refine l_do F rfl rfl (op_buildSlice S _ 0 _ 3 1 iC_i64 ([] : List Int) F rfl (by kernel_rfl) (by kernel_rfl) (by kernel_rfl) (by unfold maxLen; omega) fun b5 z S a F => ?_)
    refine l_pure 2 (fun L => (12, .slice (some ⟨b5, 0, none⟩) 0 0) :: (11, .slice (some ⟨b4, 0, none⟩) 1 1) :: L) F (by kernel_rfl) fun a F => ?_
    refine l_then ?_
    refine wp_seq ?_
    refine wp_block ?_
    refine wp_loop_m (fun m a z => ∃ (f : Nat) (N : List Int) (E : List Int) (An : Option Addr) (cn : Nat) (Am : Option Addr) (cm : Nat) (q : Nat), m = f ∧ (WayOk x N E) ∧ (E.length + f = 7) ∧ (goP x (tq : Nat) am (f + 1) N E = goP x (tq : Nat) am 8 [(fr : Nat)] []) ∧ (N.getLastD 0 = (q : Nat)) ∧ (q < x.spots.length) ∧ (E.length = 0 → q = fr) ∧ Fr a 138 [(2, .int .i64 (tq : Nat)), (3, .int .u64 am), (4, .pointer (some ⟨b1, 0, none⟩)), (8, .pointer (some ⟨b2, 0, none⟩)), (11, .slice An N.length cn), (12, .slice Am E.length cm)] ∧ Sat w z [rest w (· < w.heap.size), box b1 25 [.slice As x.spots.length cs, .slice Ae x.edges.length ce], box b2 45 [.slice none 0 0, .slice none 0 0, .slice none 0 0], row 3 1 (.slice An N.length cn) N.length (N.flatMap iC_i64), row 3 1 (.slice Am E.length cm) E.length (E.flatMap iC_i64)]) _ ⟨7, [(fr : Nat)], ([] : List Int), (some ⟨b4, 0, none⟩), 1, (some ⟨b5, 0, none⟩), 0, fr, rfl, (way_one x _), rfl, rfl, rfl, (by omega), (fun _ => rfl), F.sub ⟨by kernel_rfl, by kernel_rfl, by kernel_rfl, by kernel_rfl, by kernel_rfl, by kernel_rfl, trivial⟩, S⟩ ?_
    rintro m a z ⟨f, N, E, An, cn, Am, cm, q, hm, hf6, hf7, hf8, hf9, hf10, hf11, F, S⟩
    have hw := hf6
    have hEf := hf7
    have hgo := hf8
    have hql := hf9
    have hqb := hf10
    have hE0 := hf11
    have hwl := hw.len
    have hlast : N[N.length - 1]? = some ((q : Nat) : Int) := by rw [← hql]; exact last_ne hw
    refine wp_seq ?_
    refine s_reg ?_
    refine l_pure 3 (fun L => (34, .int .i64 (N.length : Nat)) :: (33, .slice An N.length cn) :: (32, .slice An N.length cn) :: L) F (by kernel_rfl) fun a F => ?_
    refine l_do F rfl rfl (op_pure F (v0 := .int .i64 (IntKind.wrap .i64 ((N.length : Nat) - 1))) (v := .int .i64 (N.length - 1 : Nat)) (by kernel_rfl) (wrn_i64 (by omega) (by omega) (by omega)) fun a F => ?_)
    refine l_do F rfl rfl (op_index _ 3 _ _ An N.length cn (N.length - 1) 1 .i64 F rfl (by kernel_rfl) (by kernel_rfl) (by kernel_rfl) (by kernel_rfl) (by omega) (row_some S 3 rfl (m := N.length - 1) (by omega)) (fun a F => ?_))
    refine l_do F rfl rfl (op_load _ _ An ((N.length - 1) * 1) (.int .i64 (q : Nat)) F rfl (by kernel_rfl) (by kernel_rfl) (cRec S 3 iC_len_i64 rfl 0 hlast rfl) (fun a F => ?_))
    refine l_pure 1 (fun L => (38, .int .i64 (tq : Nat)) :: L) F (by kernel_rfl) fun a F => ?_
    by_cases ht12 : ((q : Nat) : Int) = ((tq : Nat) : Int)
    · skip
      have hqt := ht12
      have hl1 : 1 ≤ E.length := by
        rcases Nat.eq_zero_or_pos E.length with h9 | h9
        · exfalso; have := hE0 h9; omega
        · exact h9
      refine l_do F rfl rfl (op_pure F (v0 := .bool (((q : Nat) : Int) != ((tq : Nat) : Int))) (v := .bool false) (by kernel_rfl) (neqF ht12) fun a F => ?_)
      refine l_then ?_
      refine c_f F rfl ?_
      refine wp_exit ?_
      refine then_x ?_
      refine then_x ?_
      refine inb_x ?_
      refine then_n ?_
      refine s_reg ?_
      refine l_do F rfl rfl (op_loadK _ _ (some ⟨b1, 0, none⟩) 0 [.slice As x.spots.length cs, .slice Ae x.edges.length ce] F rfl (by kernel_rfl) (by kernel_rfl) (by kernel_rfl) (by simp) (cBoxK S 1 rfl 0 (by kernel_rfl)) (fun a F => ?_))
      refine l_pure 3 (fun L => (130, .int .u64 am) :: (129, .slice Am E.length cm) :: (128, .slice An N.length cn) :: L) F (by kernel_rfl) fun a F => ?_
      rcases fill_cases x N E am with hf | ⟨r, hf⟩
      · skip
        have hgr : greedyP x (fr : Nat) (tq : Nat) am = (noRt, 27) := by
          unfold greedyP
          rw [if_neg (by simp [hr]), ← hgo, go_there (by rw [hql]; exact hqt)]
          simp only [hf]
        refine l_do F rfl rfl (op_fn F (by kernel_rfl) (rfill_not _ As cs Ae ce x (h.move S rfl) ok An cn N (Recs.ofRow (S.rowOf (i := 3) rfl) (by omega)) Am cm E (Recs.ofRow (S.rowOf (i := 4) rfl) (by omega)) am hua hw (by omega) hl1 hf) ?_)
        rintro e z ⟨rfl, hb⟩
        have S := S.grow hb
        refine ⟨_, rfl, ?_⟩
        intro a F
        refine l_pure 3 (fun L => (133, .bool false) :: (132, .agg #[.slice none 0 0, .slice none 0 0, .slice none 0 0]) :: (126, .tuple #[.agg #[.slice none 0 0, .slice none 0 0, .slice none 0 0], .bool false]) :: L) F (by kernel_rfl) fun a F => ?_
        refine l_do F rfl rfl (op_alloc S _ (.agg #[.slice none 0 0, .slice none 0 0, .slice none 0 0]) rfl (by kernel_rfl) fun b13 z S a F => ?_)
        refine l_do F rfl rfl (op_storeB S 5 _ _ _ b13 0 (.agg #[.slice none 0 0, .slice none 0 0, .slice none 0 0]) F rfl rfl (by kernel_rfl) (by kernel_rfl) (by kernel_rfl) (by kernel_rfl) (by kernel_rfl) fun z S a F => ?_)
        refine l_pure 1 (fun L => (19, .bool false) :: L) F (by kernel_rfl) fun a F => ?_
        refine l_then ?_
        refine wp_seq ?_
        refine s_reg ?_
        refine l_pure 2 (fun L => (135, .bool true) :: (134, .bool false) :: L) F (by kernel_rfl) fun a F => ?_
        refine l_then ?_
        refine c_t F rfl ?_
        refine s_reg ?_
        refine l_pure 1 (fun L => (136, .agg #[.slice none 0 0, .slice none 0 0, .slice none 0 0]) :: L) F (by kernel_rfl) fun a F => ?_
        refine l_do F rfl rfl (op_storeB S 2 _ _ _ b2 0 (.agg #[.slice none 0 0, .slice none 0 0, .slice none 0 0]) F rfl rfl (by kernel_rfl) (by kernel_rfl) (by kernel_rfl) (by kernel_rfl) (by kernel_rfl) fun z S a F => ?_)
        refine l_pure 1 (fun L => (9, .int .i64 27) :: L) F (by kernel_rfl) fun a F => ?_
        refine l_then ?_
        refine wp_ret ?_
        refine then_r (?_)
        have S := ((((S.nilRow 3 1).nilRow 3 1).nilRow 26 1).pushBag)
        have S := bag_add (R := []) noM S 9 6 7 8 rfl rfl rfl rfl (by decide) (by decide) (by decide) (by decide) (by decide) (by decide)
        exact fin F [.cell 8 45, .tmp 9] [.agg #[.slice none 0 0, .slice none 0 0, .slice none 0 0], .int .i64 27] rfl ⟨⟨_, by kernel_rfl, resK S 2 (cs := [.slice none 0 0, .slice none 0 0, .slice none 0 0]) rfl (by kernel_rfl) (by kernel_rfl) (by simp)⟩, by kernel_rfl, trivial⟩ (.tuple #[.agg #[.slice none 0 0, .slice none 0 0, .slice none 0 0], .int .i64 27]) rfl ⟨noM, by rw [hgr]; rfl, by rw [hgr]; rfl, S.pick [0, 9] (by decide)⟩
      · skip
        have hgr : greedyP x (fr : Nat) (tq : Nat) am = (r, 0) := by
          unfold greedyP
          rw [if_neg (by simp [hr]), ← hgo, go_there (by rw [hql]; exact hqt)]
          simp only [hf]
        refine l_do F rfl rfl (op_fn F (by kernel_rfl) (rfill_got _ As cs Ae ce x (h.move S rfl) ok An cn N (Recs.ofRow (S.rowOf (i := 3) rfl) (by omega)) Am cm E (Recs.ofRow (S.rowOf (i := 4) rfl) (by omega)) am hua hw (by omega) hl1 hf) ?_)
        rintro e z ⟨R1, e1, R2, e2, R3, e3, rfl, g⟩
        have S := S.pushThings g
        refine ⟨_, rfl, ?_⟩
        intro a F
        refine l_pure 3 (fun L => (133, .bool true) :: (132, .agg #[.slice R1 r.nodes.length e1, .slice R2 r.edges.length e2, .slice R3 r.amts.length e3]) :: (126, .tuple #[.agg #[.slice R1 r.nodes.length e1, .slice R2 r.edges.length e2, .slice R3 r.amts.length e3], .bool true]) :: L) F (by kernel_rfl) fun a F => ?_
        refine l_do F rfl rfl (op_alloc S _ (.agg #[.slice none 0 0, .slice none 0 0, .slice none 0 0]) rfl (by kernel_rfl) fun b14 z S a F => ?_)
        refine l_do F rfl rfl (op_storeB S 8 _ _ _ b14 0 (.agg #[.slice R1 r.nodes.length e1, .slice R2 r.edges.length e2, .slice R3 r.amts.length e3]) F rfl rfl (by kernel_rfl) (by kernel_rfl) (by kernel_rfl) (by kernel_rfl) (by kernel_rfl) fun z S a F => ?_)
        refine l_pure 1 (fun L => (19, .bool true) :: L) F (by kernel_rfl) fun a F => ?_
        refine l_then ?_
        refine wp_seq ?_
        refine s_reg ?_
        refine l_pure 2 (fun L => (135, .bool false) :: (134, .bool true) :: L) F (by kernel_rfl) fun a F => ?_
        refine l_then ?_
        refine c_f F rfl ?_
        refine wp_skip ?_
        refine then_n ?_
        refine s_reg ?_
        refine l_do F rfl rfl (op_loadK _ _ (some ⟨b14, 0, none⟩) 0 [.slice R1 r.nodes.length e1, .slice R2 r.edges.length e2, .slice R3 r.amts.length e3] F rfl (by kernel_rfl) (by kernel_rfl) (by kernel_rfl) (by simp) (cBoxK S 8 rfl 0 (by kernel_rfl)) (fun a F => ?_))
        refine l_do F rfl rfl (op_storeB S 2 _ _ _ b2 0 (.agg #[.slice R1 r.nodes.length e1, .slice R2 r.edges.length e2, .slice R3 r.amts.length e3]) F rfl rfl (by kernel_rfl) (by kernel_rfl) (by kernel_rfl) (by kernel_rfl) (by kernel_rfl) fun z S a F => ?_)
        refine l_pure 1 (fun L => (9, .int .i64 0) :: L) F (by kernel_rfl) fun a F => ?_
        refine l_then ?_
        refine wp_ret ?_
        have S := S.pushBag
        have S := bag_add (R := []) (⟨R1, e1, R2, e2, R3, e3, r⟩ : RtM) S 9 5 6 7 rfl rfl rfl rfl (by decide) (by decide) (by decide) (by decide) (by decide) (by decide)
        exact fin F [.cell 8 45, .tmp 9] [.agg #[.slice R1 r.nodes.length e1, .slice R2 r.edges.length e2, .slice R3 r.amts.length e3], .int .i64 0] rfl ⟨⟨_, by kernel_rfl, resK S 2 (cs := [.slice R1 r.nodes.length e1, .slice R2 r.edges.length e2, .slice R3 r.amts.length e3]) rfl (by kernel_rfl) (by kernel_rfl) (by simp)⟩, by kernel_rfl, trivial⟩ (.tuple #[.agg #[.slice R1 r.nodes.length e1, .slice R2 r.edges.length e2, .slice R3 r.amts.length e3], .int .i64 0]) rfl ⟨⟨R1, e1, R2, e2, R3, e3, r⟩, by rw [hgr], by rw [hgr], S.pick [0, 9] (by decide)⟩
    · skip
      have hqt := ht12
      obtain ⟨nv, hnv⟩ : ∃ nv : Int, nearP x (q : Nat) gq am = nv := ⟨_, rfl⟩
      refine l_do F rfl rfl (op_pure F (v0 := .bool (((q : Nat) : Int) != ((tq : Nat) : Int))) (v := .bool true) (by kernel_rfl) (neqT ht12) fun a F => ?_)
      refine l_then ?_
      refine c_t F rfl ?_
      refine wp_skip ?_
      refine then_n ?_
      refine wp_block ?_
      refine s_reg ?_
      refine l_pure 3 (fun L => (42, .int .i64 (N.length : Nat)) :: (41, .slice An N.length cn) :: (40, .slice An N.length cn) :: L) F (by kernel_rfl) fun a F => ?_
      refine l_do F rfl rfl (op_pure F (v0 := .int .i64 (IntKind.wrap .i64 ((N.length : Nat) - 1))) (v := .int .i64 (N.length - 1 : Nat)) (by kernel_rfl) (wrn_i64 (by omega) (by omega) (by omega)) fun a F => ?_)
      refine l_do F rfl rfl (op_index _ 3 _ _ An N.length cn (N.length - 1) 1 .i64 F rfl (by kernel_rfl) (by kernel_rfl) (by kernel_rfl) (by kernel_rfl) (get_lt hlast) (row_some S 3 rfl (m := N.length - 1) (get_lt hlast)) (fun a F => ?_))
      refine l_do F rfl rfl (op_load _ _ An ((N.length - 1) * 1) (.int .i64 (q : Nat)) F rfl (by kernel_rfl) (by kernel_rfl) (cRec S 3 iC_len_i64 rfl 0 hlast rfl) (fun a F => ?_))
      refine l_pure 1 (fun L => (13, .int .i64 (q : Nat)) :: L) F (by kernel_rfl) fun a F => ?_
      refine l_then ?_
      refine wp_seq ?_
      refine region_gx (fun D => fun (_ : Unit) => [rest w (· < w.heap.size), box b1 25 [.slice As x.spots.length cs, .slice Ae x.edges.length ce], box b2 45 [.slice none 0 0, .slice none 0 0, .slice none 0 0], row 3 1 (.slice An N.length cn) N.length (N.flatMap iC_i64), row 3 1 (.slice Am E.length cm) E.length (E.flatMap iC_i64)]) (fun (_ : Unit) => [.agg #[.slice As x.spots.length cs, .slice Ae x.edges.length ce], .int .i64 (q : Nat), .pointer (some ⟨b1, 0, none⟩), .slice As x.spots.length cs, .int .i64 (tq : Nat), ptrA As (tq * 2), .agg #[.int .i64 gq.1, .int .i64 gq.2], .int .u64 am, .int .i64 nv, .int .i64 nv]) [(0, [], [8]), (3, [], [5, 6, 8]), (5, [3], [6, 8]), (6, [3, 5], [8]), (8, [0, 3, 5, 6], [])] () rfl (by kernel_rfl) (by kernel_rfl) F S.drew ?_ ?_ ?_ ?_ ?_
      · rintro ⟨⟩; rfl
      · rintro ⟨⟩; kernel_rfl
      · intro D D' x h
        cases x
        rfl
      · refine ⟨?_, ?_⟩
        · refine ⟨_, rfl, rfl, by kernel_rfl, ?_⟩
          rintro D ⟨⟩ a z S F
          refine ⟨by kernel_rfl, ?_⟩
          exact op_loadK _ _ (some ⟨b1, 0, none⟩) 0 [.slice As x.spots.length cs, .slice Ae x.edges.length ce] F rfl (by kernel_rfl) (by kernel_rfl) (by kernel_rfl) (by simp) (cBoxK S 1 rfl 0 (by kernel_rfl)) (⟨(), rfl, (SameB.refl _ _ rfl), S⟩)
        refine ⟨?_, ?_⟩
        · refine ⟨_, rfl, rfl, by kernel_rfl, ?_⟩
          rintro D ⟨⟩ a z S F
          refine ⟨by kernel_rfl, ?_⟩
          exact op_load _ _ (some ⟨b1, 0, none⟩) 0 (.slice As x.spots.length cs) F rfl (by kernel_rfl) (by kernel_rfl) (cBox S 1 rfl (j := 0) rfl) (⟨(), rfl, (SameB.refl _ _ rfl), S⟩)
        refine ⟨?_, ?_⟩
        · refine ⟨_, rfl, rfl, by kernel_rfl, ?_⟩
          rintro D ⟨⟩ a z S F
          refine ⟨by kernel_rfl, ?_⟩
          exact op_index _ 106 _ _ As x.spots.length cs tq 2 .i64 F rfl (by kernel_rfl) (by kernel_rfl) (by kernel_rfl) (by kernel_rfl) (get_lt hgq) (recs_some h.s (m := tq) (get_lt hgq)) (⟨(), rfl, (SameB.refl _ _ rfl), S⟩)
        refine ⟨?_, ?_⟩
        · refine ⟨_, rfl, rfl, by kernel_rfl, ?_⟩
          rintro D ⟨⟩ a z S F
          refine ⟨by kernel_rfl, ?_⟩
          exact op_loadK _ _ As (tq * 2) [.int .i64 gq.1, .int .i64 gq.2] F rfl (by kernel_rfl) (by kernel_rfl) (by kernel_rfl) (by simp) (cOldK0 S 0 spC_len h.s rfl hgq (by kernel_rfl)) (⟨(), rfl, (SameB.refl _ _ rfl), S⟩)
        refine ⟨?_, ?_⟩
        · refine ⟨_, rfl, rfl, by kernel_rfl, ?_⟩
          rintro D ⟨⟩ a z S F
          refine ⟨by kernel_rfl, ?_⟩
          refine op_fn F (by kernel_rfl) (rnear_at (t := gq) hnv _ As cs Ae ce (h.move S rfl) ok) ?_
          rintro e z ⟨rfl, hb⟩
          have S := S.grow hb
          exact ⟨_, rfl, (), rfl, (SameB.refl _ _ rfl), S⟩
        trivial
      · rintro ⟨⟩ a z F S
        have F := F.sub (l := [(2, .int .i64 (tq : Nat)), (3, .int .u64 am), (4, .pointer (some ⟨b1, 0, none⟩)), (8, .pointer (some ⟨b2, 0, none⟩)), (11, .slice An N.length cn), (12, .slice Am E.length cm), (13, .int .i64 (q : Nat)), (14, .int .i64 nv)]) ⟨by kernel_rfl, by kernel_rfl, by kernel_rfl, by kernel_rfl, by kernel_rfl, by kernel_rfl, by kernel_rfl, by kernel_rfl, trivial⟩
        have S : Sat w z [rest w (· < w.heap.size), box b1 25 [.slice As x.spots.length cs, .slice Ae x.edges.length ce], box b2 45 [.slice none 0 0, .slice none 0 0, .slice none 0 0], row 3 1 (.slice An N.length cn) N.length (N.flatMap iC_i64), row 3 1 (.slice Am E.length cm) E.length (E.flatMap iC_i64)] := S
        refine then_n ?_
        refine wp_seq ?_
        refine s_reg ?_
        refine l_pure 1 (fun L => (55, .int .i64 nv) :: L) F (by kernel_rfl) fun a F => ?_
        by_cases ht15 : (nv : Int) < (0 : Int)
        · skip
          have hstk : stuckP x (tq : Nat) am N E := .inl (by rw [hql, hgoal, hnv]; exact ht15)
          refine l_do F rfl rfl (op_pure F (v0 := .bool (decide ((nv : Int) < (0 : Int)))) (v := .bool true) (by kernel_rfl) (lssT ht15) fun a F => ?_)
          refine l_pure 5 (fun L => (61, .bool true) :: (60, undef) :: (59, undef) :: (58, undef) :: (57, .bool true) :: L) F (by kernel_rfl) fun a F => ?_
          refine l_then ?_
          refine c_t F rfl ?_
          refine s_reg ?_
          refine l_pure 1 (fun L => (62, .agg #[.slice none 0 0, .slice none 0 0, .slice none 0 0]) :: L) F (by kernel_rfl) fun a F => ?_
          refine l_do F rfl rfl (op_storeB S 2 _ _ _ b2 0 (.agg #[.slice none 0 0, .slice none 0 0, .slice none 0 0]) F rfl rfl (by kernel_rfl) (by kernel_rfl) (by kernel_rfl) (by kernel_rfl) (by kernel_rfl) fun z S a F => ?_)
          refine l_pure 1 (fun L => (9, .int .i64 27) :: L) F (by kernel_rfl) fun a F => ?_
          refine l_then ?_
          refine wp_ret ?_
          refine then_r (inb_r (then_r (inb_r (then_r (?_)))))
          have hgr : greedyP x (fr : Nat) (tq : Nat) am = (noRt, 27) := by
            unfold greedyP
            rw [if_neg (by simp [hr]), ← hgo, go_stuck (by rw [hql]; exact hqt) hstk]
          have S := ((((S.nilRow 3 1).nilRow 3 1).nilRow 26 1).pushBag)
          have S := bag_add (R := []) noM S 8 5 6 7 rfl rfl rfl rfl (by decide) (by decide) (by decide) (by decide) (by decide) (by decide)
          exact fin F [.cell 8 45, .tmp 9] [.agg #[.slice none 0 0, .slice none 0 0, .slice none 0 0], .int .i64 27] rfl ⟨⟨_, by kernel_rfl, resK S 2 (cs := [.slice none 0 0, .slice none 0 0, .slice none 0 0]) rfl (by kernel_rfl) (by kernel_rfl) (by simp)⟩, by kernel_rfl, trivial⟩ (.tuple #[.agg #[.slice none 0 0, .slice none 0 0, .slice none 0 0], .int .i64 27]) rfl ⟨noM, by rw [hgr]; rfl, by rw [hgr]; rfl, S.pick [0, 8] (by decide)⟩
        · skip
          obtain ⟨nx, rfl⟩ : ∃ nx : Nat, nv = nx := ⟨nv.toNat, by omega⟩
          have hst := near_step (x := x) (n := (q : Nat)) (am := am) (t := gq) (by rw [hnv]; omega)
          rw [hnv] at hst
          have hnb : nx < x.spots.length := by
            obtain ⟨s9, hs9, h91, h92⟩ := hst
            have := step_to hs9
            omega
          obtain ⟨pn, hpn⟩ : ∃ pn, x.spots[nx]? = some pn := ⟨_, List.getElem?_eq_getElem (by omega)⟩
          obtain ⟨pq, hpq⟩ : ∃ pq, x.spots[q]? = some pq := ⟨_, List.getElem?_eq_getElem (by omega)⟩
          have hgn : goalP x (nx : Nat) = pn := by unfold goalP; rw [Int.toNat_natCast, List.getD_eq_getElem?_getD, hpn]; rfl
          have hgp : goalP x (q : Nat) = pq := by unfold goalP; rw [Int.toNat_natCast, List.getD_eq_getElem?_getD, hpq]; rfl
          refine l_do F rfl rfl (op_pure F (v0 := .bool (decide (((nx : Nat) : Int) < (0 : Int)))) (v := .bool false) (by kernel_rfl) (lssF (by omega)) fun a F => ?_)
          refine l_pure 3 (fun L => (59, .int .i64 (E.length : Nat)) :: (58, .slice Am E.length cm) :: (57, .bool false) :: L) F (by kernel_rfl) fun a F => ?_
          by_cases ht16 : ((E.length : Nat) : Int) = (7 : Int)
          · skip
            have hstk : stuckP x (tq : Nat) am N E := .inr (.inl (by omega))
            refine l_do F rfl rfl (op_pure F (v0 := .bool (((E.length : Nat) : Int) == (7 : Int))) (v := .bool true) (by kernel_rfl) (eqlT ht16) fun a F => ?_)
            refine l_pure 1 (fun L => (61, .bool true) :: L) F (by kernel_rfl) fun a F => ?_
            refine l_then ?_
            refine c_t F rfl ?_
            refine s_reg ?_
            refine l_pure 1 (fun L => (62, .agg #[.slice none 0 0, .slice none 0 0, .slice none 0 0]) :: L) F (by kernel_rfl) fun a F => ?_
            refine l_do F rfl rfl (op_storeB S 2 _ _ _ b2 0 (.agg #[.slice none 0 0, .slice none 0 0, .slice none 0 0]) F rfl rfl (by kernel_rfl) (by kernel_rfl) (by kernel_rfl) (by kernel_rfl) (by kernel_rfl) fun z S a F => ?_)
            refine l_pure 1 (fun L => (9, .int .i64 27) :: L) F (by kernel_rfl) fun a F => ?_
            refine l_then ?_
            refine wp_ret ?_
            refine then_r (inb_r (then_r (inb_r (then_r (?_)))))
            have hgr : greedyP x (fr : Nat) (tq : Nat) am = (noRt, 27) := by
              unfold greedyP
              rw [if_neg (by simp [hr]), ← hgo, go_stuck (by rw [hql]; exact hqt) hstk]
            have S := ((((S.nilRow 3 1).nilRow 3 1).nilRow 26 1).pushBag)
            have S := bag_add (R := []) noM S 8 5 6 7 rfl rfl rfl rfl (by decide) (by decide) (by decide) (by decide) (by decide) (by decide)
            exact fin F [.cell 8 45, .tmp 9] [.agg #[.slice none 0 0, .slice none 0 0, .slice none 0 0], .int .i64 27] rfl ⟨⟨_, by kernel_rfl, resK S 2 (cs := [.slice none 0 0, .slice none 0 0, .slice none 0 0]) rfl (by kernel_rfl) (by kernel_rfl) (by simp)⟩, by kernel_rfl, trivial⟩ (.tuple #[.agg #[.slice none 0 0, .slice none 0 0, .slice none 0 0], .int .i64 27]) rfl ⟨noM, by rw [hgr]; rfl, by rw [hgr]; rfl, S.pick [0, 8] (by decide)⟩
          · skip
            refine l_do F rfl rfl (op_pure F (v0 := .bool (((E.length : Nat) : Int) == (7 : Int))) (v := .bool false) (by kernel_rfl) (eqlF ht16) fun a F => ?_)
            refine l_pure 1 (fun L => (61, .bool false) :: L) F (by kernel_rfl) fun a F => ?_
            refine l_then ?_
            refine c_f F rfl ?_
            refine wp_skip ?_
            refine then_n ?_
            refine wp_seq ?_
            refine wp_seq ?_
            by_cases ht17 : (farI pq.1 pq.2 gq.1 gq.2 : Int) ≤ (farI pn.1 pn.2 gq.1 gq.2 : Int)
            · skip
              have hstk : stuckP x (tq : Nat) am N E := .inr (.inr (by unfold farTo; rw [hql, hgoal, hnv, hgn, hgp]; exact ht17))
              refine region_gx (fun D => fun (_ : Unit) => [rest w (· < w.heap.size), box b1 25 [.slice As x.spots.length cs, .slice Ae x.edges.length ce], box b2 45 [.slice none 0 0, .slice none 0 0, .slice none 0 0], row 3 1 (.slice An N.length cn) N.length (N.flatMap iC_i64), row 3 1 (.slice Am E.length cm) E.length (E.flatMap iC_i64)]) (fun (_ : Unit) => [.pointer (some ⟨b1, 0, none⟩), .slice As x.spots.length cs, .int .i64 (nx : Nat), ptrA As (nx * 2), .agg #[.int .i64 pn.1, .int .i64 pn.2], .pointer (some ⟨b1, 0, none⟩), .slice As x.spots.length cs, .int .i64 (tq : Nat), ptrA As (tq * 2), .agg #[.int .i64 gq.1, .int .i64 gq.2], .int .i64 (farI pn.1 pn.2 gq.1 gq.2), .pointer (some ⟨b1, 0, none⟩), .slice As x.spots.length cs, .int .i64 (q : Nat), ptrA As (q * 2), .agg #[.int .i64 pq.1, .int .i64 pq.2], .pointer (some ⟨b1, 0, none⟩), .slice As x.spots.length cs, .int .i64 (tq : Nat), ptrA As (tq * 2), .agg #[.int .i64 gq.1, .int .i64 gq.2], .int .i64 (farI pq.1 pq.2 gq.1 gq.2), .bool true]) [(1, [], [3, 4, 10, 21, 22]), (3, [1], [4, 10, 21, 22]), (4, [1, 3], [10, 21, 22]), (6, [], [8, 9, 10, 21, 22]), (8, [6], [9, 10, 21, 22]), (9, [6, 8], [10, 21, 22]), (10, [1, 3, 4, 6, 8, 9], [21, 22]), (12, [], [14, 15, 21, 22]), (14, [12], [15, 21, 22]), (15, [12, 14], [21, 22]), (17, [], [19, 20, 21, 22]), (19, [17], [20, 21, 22]), (20, [17, 19], [21, 22]), (21, [1, 3, 4, 6, 8, 9, 10, 12, 14, 15, 17, 19, 20], [22]), (22, [1, 3, 4, 6, 8, 9, 10, 12, 14, 15, 17, 19, 20, 21], [])] () rfl (by kernel_rfl) (by kernel_rfl) F S.drew ?_ ?_ ?_ ?_ ?_
              · rintro ⟨⟩; rfl
              · rintro ⟨⟩; kernel_rfl
              · intro D D' x h
                cases x
                rfl
              · refine ⟨?_, ?_⟩
                · refine ⟨_, rfl, rfl, by kernel_rfl, ?_⟩
                  rintro D ⟨⟩ a z S F
                  refine ⟨by kernel_rfl, ?_⟩
                  exact op_load _ _ (some ⟨b1, 0, none⟩) 0 (.slice As x.spots.length cs) F rfl (by kernel_rfl) (by kernel_rfl) (cBox S 1 rfl (j := 0) rfl) (⟨(), rfl, (SameB.refl _ _ rfl), S⟩)
                refine ⟨?_, ?_⟩
                · refine ⟨_, rfl, rfl, by kernel_rfl, ?_⟩
                  rintro D ⟨⟩ a z S F
                  refine ⟨by kernel_rfl, ?_⟩
                  exact op_index _ 106 _ _ As x.spots.length cs nx 2 .i64 F rfl (by kernel_rfl) (by kernel_rfl) (by kernel_rfl) (by kernel_rfl) (get_lt hpn) (recs_some h.s (m := nx) (get_lt hpn)) (⟨(), rfl, (SameB.refl _ _ rfl), S⟩)
                refine ⟨?_, ?_⟩
                · refine ⟨_, rfl, rfl, by kernel_rfl, ?_⟩
                  rintro D ⟨⟩ a z S F
                  refine ⟨by kernel_rfl, ?_⟩
                  exact op_loadK _ _ As (nx * 2) [.int .i64 pn.1, .int .i64 pn.2] F rfl (by kernel_rfl) (by kernel_rfl) (by kernel_rfl) (by simp) (cOldK0 S 0 spC_len h.s rfl hpn (by kernel_rfl)) (⟨(), rfl, (SameB.refl _ _ rfl), S⟩)
                refine ⟨?_, ?_⟩
                · refine ⟨_, rfl, rfl, by kernel_rfl, ?_⟩
                  rintro D ⟨⟩ a z S F
                  refine ⟨by kernel_rfl, ?_⟩
                  exact op_load _ _ (some ⟨b1, 0, none⟩) 0 (.slice As x.spots.length cs) F rfl (by kernel_rfl) (by kernel_rfl) (cBox S 1 rfl (j := 0) rfl) (⟨(), rfl, (SameB.refl _ _ rfl), S⟩)
                refine ⟨?_, ?_⟩
                · refine ⟨_, rfl, rfl, by kernel_rfl, ?_⟩
                  rintro D ⟨⟩ a z S F
                  refine ⟨by kernel_rfl, ?_⟩
                  exact op_index _ 106 _ _ As x.spots.length cs tq 2 .i64 F rfl (by kernel_rfl) (by kernel_rfl) (by kernel_rfl) (by kernel_rfl) (get_lt hgq) (recs_some h.s (m := tq) (get_lt hgq)) (⟨(), rfl, (SameB.refl _ _ rfl), S⟩)
                refine ⟨?_, ?_⟩
                · refine ⟨_, rfl, rfl, by kernel_rfl, ?_⟩
                  rintro D ⟨⟩ a z S F
                  refine ⟨by kernel_rfl, ?_⟩
                  exact op_loadK _ _ As (tq * 2) [.int .i64 gq.1, .int .i64 gq.2] F rfl (by kernel_rfl) (by kernel_rfl) (by kernel_rfl) (by simp) (cOldK0 S 0 spC_len h.s rfl hgq (by kernel_rfl)) (⟨(), rfl, (SameB.refl _ _ rfl), S⟩)
                refine ⟨?_, ?_⟩
                · refine ⟨_, rfl, rfl, by kernel_rfl, ?_⟩
                  rintro D ⟨⟩ a z S F
                  refine ⟨by kernel_rfl, ?_⟩
                  refine op_fn F (by kernel_rfl) (rfar_any pn.1 pn.2 gq.1 gq.2 _) ?_
                  rintro e z ⟨rfl, hb⟩
                  have S := S.grow hb
                  exact ⟨_, rfl, (), rfl, (SameB.refl _ _ rfl), S⟩
                refine ⟨?_, ?_⟩
                · refine ⟨_, rfl, rfl, by kernel_rfl, ?_⟩
                  rintro D ⟨⟩ a z S F
                  refine ⟨by kernel_rfl, ?_⟩
                  exact op_load _ _ (some ⟨b1, 0, none⟩) 0 (.slice As x.spots.length cs) F rfl (by kernel_rfl) (by kernel_rfl) (cBox S 1 rfl (j := 0) rfl) (⟨(), rfl, (SameB.refl _ _ rfl), S⟩)
                refine ⟨?_, ?_⟩
                · refine ⟨_, rfl, rfl, by kernel_rfl, ?_⟩
                  rintro D ⟨⟩ a z S F
                  refine ⟨by kernel_rfl, ?_⟩
                  exact op_index _ 106 _ _ As x.spots.length cs q 2 .i64 F rfl (by kernel_rfl) (by kernel_rfl) (by kernel_rfl) (by kernel_rfl) (get_lt hpq) (recs_some h.s (m := q) (get_lt hpq)) (⟨(), rfl, (SameB.refl _ _ rfl), S⟩)
                refine ⟨?_, ?_⟩
                · refine ⟨_, rfl, rfl, by kernel_rfl, ?_⟩
                  rintro D ⟨⟩ a z S F
                  refine ⟨by kernel_rfl, ?_⟩
                  exact op_loadK _ _ As (q * 2) [.int .i64 pq.1, .int .i64 pq.2] F rfl (by kernel_rfl) (by kernel_rfl) (by kernel_rfl) (by simp) (cOldK0 S 0 spC_len h.s rfl hpq (by kernel_rfl)) (⟨(), rfl, (SameB.refl _ _ rfl), S⟩)
                refine ⟨?_, ?_⟩
                · refine ⟨_, rfl, rfl, by kernel_rfl, ?_⟩
                  rintro D ⟨⟩ a z S F
                  refine ⟨by kernel_rfl, ?_⟩
                  exact op_load _ _ (some ⟨b1, 0, none⟩) 0 (.slice As x.spots.length cs) F rfl (by kernel_rfl) (by kernel_rfl) (cBox S 1 rfl (j := 0) rfl) (⟨(), rfl, (SameB.refl _ _ rfl), S⟩)
                refine ⟨?_, ?_⟩
                · refine ⟨_, rfl, rfl, by kernel_rfl, ?_⟩
                  rintro D ⟨⟩ a z S F
                  refine ⟨by kernel_rfl, ?_⟩
                  exact op_index _ 106 _ _ As x.spots.length cs tq 2 .i64 F rfl (by kernel_rfl) (by kernel_rfl) (by kernel_rfl) (by kernel_rfl) (get_lt hgq) (recs_some h.s (m := tq) (get_lt hgq)) (⟨(), rfl, (SameB.refl _ _ rfl), S⟩)
                refine ⟨?_, ?_⟩
                · refine ⟨_, rfl, rfl, by kernel_rfl, ?_⟩
                  rintro D ⟨⟩ a z S F
                  refine ⟨by kernel_rfl, ?_⟩
                  exact op_loadK _ _ As (tq * 2) [.int .i64 gq.1, .int .i64 gq.2] F rfl (by kernel_rfl) (by kernel_rfl) (by kernel_rfl) (by simp) (cOldK0 S 0 spC_len h.s rfl hgq (by kernel_rfl)) (⟨(), rfl, (SameB.refl _ _ rfl), S⟩)
                refine ⟨?_, ?_⟩
                · refine ⟨_, rfl, rfl, by kernel_rfl, ?_⟩
                  rintro D ⟨⟩ a z S F
                  refine ⟨by kernel_rfl, ?_⟩
                  refine op_fn F (by kernel_rfl) (rfar_any pq.1 pq.2 gq.1 gq.2 _) ?_
                  rintro e z ⟨rfl, hb⟩
                  have S := S.grow hb
                  exact ⟨_, rfl, (), rfl, (SameB.refl _ _ rfl), S⟩
                refine ⟨?_, ?_⟩
                · refine ⟨_, rfl, rfl, by kernel_rfl, ?_⟩
                  rintro D ⟨⟩ a z S F
                  refine ⟨by kernel_rfl, ?_⟩
                  exact op_pure F (v0 := .bool (decide ((farI pn.1 pn.2 gq.1 gq.2 : Int) ≥ (farI pq.1 pq.2 gq.1 gq.2 : Int)))) (v := .bool true) (by kernel_rfl) (geqT ht17) ⟨(), rfl, (SameB.refl _ _ rfl), S⟩
                trivial
              · rintro ⟨⟩ a z F S
                have F := F.sub (l := [(2, .int .i64 (tq : Nat)), (3, .int .u64 am), (4, .pointer (some ⟨b1, 0, none⟩)), (8, .pointer (some ⟨b2, 0, none⟩)), (11, .slice An N.length cn), (12, .slice Am E.length cm), (13, .int .i64 (q : Nat)), (14, .int .i64 (nx : Nat)), (85, .bool true)]) ⟨by kernel_rfl, by kernel_rfl, by kernel_rfl, by kernel_rfl, by kernel_rfl, by kernel_rfl, by kernel_rfl, by kernel_rfl, by kernel_rfl, trivial⟩
                have S : Sat w z [rest w (· < w.heap.size), box b1 25 [.slice As x.spots.length cs, .slice Ae x.edges.length ce], box b2 45 [.slice none 0 0, .slice none 0 0, .slice none 0 0], row 3 1 (.slice An N.length cn) N.length (N.flatMap iC_i64), row 3 1 (.slice Am E.length cm) E.length (E.flatMap iC_i64)] := S
                refine then_n ?_
                refine c_t F rfl ?_
                refine s_reg ?_
                refine l_pure 1 (fun L => (86, .agg #[.slice none 0 0, .slice none 0 0, .slice none 0 0]) :: L) F (by kernel_rfl) fun a F => ?_
                refine l_do F rfl rfl (op_storeB S 2 _ _ _ b2 0 (.agg #[.slice none 0 0, .slice none 0 0, .slice none 0 0]) F rfl rfl (by kernel_rfl) (by kernel_rfl) (by kernel_rfl) (by kernel_rfl) (by kernel_rfl) fun z S a F => ?_)
                refine l_pure 1 (fun L => (9, .int .i64 27) :: L) F (by kernel_rfl) fun a F => ?_
                refine l_then ?_
                refine wp_ret ?_
                refine then_r (inb_r (then_r (inb_r (then_r (?_)))))
                have hgr : greedyP x (fr : Nat) (tq : Nat) am = (noRt, 27) := by
                  unfold greedyP
                  rw [if_neg (by simp [hr]), ← hgo, go_stuck (by rw [hql]; exact hqt) hstk]
                have S := ((((S.nilRow 3 1).nilRow 3 1).nilRow 26 1).pushBag)
                have S := bag_add (R := []) noM S 8 5 6 7 rfl rfl rfl rfl (by decide) (by decide) (by decide) (by decide) (by decide) (by decide)
                exact fin F [.cell 8 45, .tmp 9] [.agg #[.slice none 0 0, .slice none 0 0, .slice none 0 0], .int .i64 27] rfl ⟨⟨_, by kernel_rfl, resK S 2 (cs := [.slice none 0 0, .slice none 0 0, .slice none 0 0]) rfl (by kernel_rfl) (by kernel_rfl) (by simp)⟩, by kernel_rfl, trivial⟩ (.tuple #[.agg #[.slice none 0 0, .slice none 0 0, .slice none 0 0], .int .i64 27]) rfl ⟨noM, by rw [hgr]; rfl, by rw [hgr]; rfl, S.pick [0, 8] (by decide)⟩
            · skip
              have hns : ¬ stuckP x (tq : Nat) am N E := by
                unfold stuckP farTo
                rw [hql, hgoal, hnv, hgn, hgp]
                omega
              obtain ⟨s1, hs1, hto1, hcan1, hed1⟩ := ix_at (ix_lt hst)
              obtain ⟨iv, hiv⟩ : ∃ iv : Nat, ixTo x (q : Nat) (nx : Nat) am = iv := ⟨_, rfl⟩
              rw [hiv] at hs1
              have hfew := rsteps_few8 x (q : Nat)
              have hixl := ix_lt hst
              refine region_gx (fun D => fun (_ : Unit) => [rest w (· < w.heap.size), box b1 25 [.slice As x.spots.length cs, .slice Ae x.edges.length ce], box b2 45 [.slice none 0 0, .slice none 0 0, .slice none 0 0], row 3 1 (.slice An N.length cn) N.length (N.flatMap iC_i64), row 3 1 (.slice Am E.length cm) E.length (E.flatMap iC_i64)]) (fun (_ : Unit) => [.pointer (some ⟨b1, 0, none⟩), .slice As x.spots.length cs, .int .i64 (nx : Nat), ptrA As (nx * 2), .agg #[.int .i64 pn.1, .int .i64 pn.2], .pointer (some ⟨b1, 0, none⟩), .slice As x.spots.length cs, .int .i64 (tq : Nat), ptrA As (tq * 2), .agg #[.int .i64 gq.1, .int .i64 gq.2], .int .i64 (farI pn.1 pn.2 gq.1 gq.2), .pointer (some ⟨b1, 0, none⟩), .slice As x.spots.length cs, .int .i64 (q : Nat), ptrA As (q * 2), .agg #[.int .i64 pq.1, .int .i64 pq.2], .pointer (some ⟨b1, 0, none⟩), .slice As x.spots.length cs, .int .i64 (tq : Nat), ptrA As (tq * 2), .agg #[.int .i64 gq.1, .int .i64 gq.2], .int .i64 (farI pq.1 pq.2 gq.1 gq.2), .bool false]) [(1, [], [3, 4, 10, 21, 22]), (3, [1], [4, 10, 21, 22]), (4, [1, 3], [10, 21, 22]), (6, [], [8, 9, 10, 21, 22]), (8, [6], [9, 10, 21, 22]), (9, [6, 8], [10, 21, 22]), (10, [1, 3, 4, 6, 8, 9], [21, 22]), (12, [], [14, 15, 21, 22]), (14, [12], [15, 21, 22]), (15, [12, 14], [21, 22]), (17, [], [19, 20, 21, 22]), (19, [17], [20, 21, 22]), (20, [17, 19], [21, 22]), (21, [1, 3, 4, 6, 8, 9, 10, 12, 14, 15, 17, 19, 20], [22]), (22, [1, 3, 4, 6, 8, 9, 10, 12, 14, 15, 17, 19, 20, 21], [])] () rfl (by kernel_rfl) (by kernel_rfl) F S.drew ?_ ?_ ?_ ?_ ?_
              · rintro ⟨⟩; rfl
              · rintro ⟨⟩; kernel_rfl
              · intro D D' x h
                cases x
                rfl
              · refine ⟨?_, ?_⟩
                · refine ⟨_, rfl, rfl, by kernel_rfl, ?_⟩
                  rintro D ⟨⟩ a z S F
                  refine ⟨by kernel_rfl, ?_⟩
                  exact op_load _ _ (some ⟨b1, 0, none⟩) 0 (.slice As x.spots.length cs) F rfl (by kernel_rfl) (by kernel_rfl) (cBox S 1 rfl (j := 0) rfl) (⟨(), rfl, (SameB.refl _ _ rfl), S⟩)
                refine ⟨?_, ?_⟩
                · refine ⟨_, rfl, rfl, by kernel_rfl, ?_⟩
                  rintro D ⟨⟩ a z S F
                  refine ⟨by kernel_rfl, ?_⟩
                  exact op_index _ 106 _ _ As x.spots.length cs nx 2 .i64 F rfl (by kernel_rfl) (by kernel_rfl) (by kernel_rfl) (by kernel_rfl) (get_lt hpn) (recs_some h.s (m := nx) (get_lt hpn)) (⟨(), rfl, (SameB.refl _ _ rfl), S⟩)
                refine ⟨?_, ?_⟩
                · refine ⟨_, rfl, rfl, by kernel_rfl, ?_⟩
                  rintro D ⟨⟩ a z S F
                  refine ⟨by kernel_rfl, ?_⟩
                  exact op_loadK _ _ As (nx * 2) [.int .i64 pn.1, .int .i64 pn.2] F rfl (by kernel_rfl) (by kernel_rfl) (by kernel_rfl) (by simp) (cOldK0 S 0 spC_len h.s rfl hpn (by kernel_rfl)) (⟨(), rfl, (SameB.refl _ _ rfl), S⟩)
                refine ⟨?_, ?_⟩
                · refine ⟨_, rfl, rfl, by kernel_rfl, ?_⟩
                  rintro D ⟨⟩ a z S F
                  refine ⟨by kernel_rfl, ?_⟩
                  exact op_load _ _ (some ⟨b1, 0, none⟩) 0 (.slice As x.spots.length cs) F rfl (by kernel_rfl) (by kernel_rfl) (cBox S 1 rfl (j := 0) rfl) (⟨(), rfl, (SameB.refl _ _ rfl), S⟩)
                refine ⟨?_, ?_⟩
                · refine ⟨_, rfl, rfl, by kernel_rfl, ?_⟩
                  rintro D ⟨⟩ a z S F
                  refine ⟨by kernel_rfl, ?_⟩
                  exact op_index _ 106 _ _ As x.spots.length cs tq 2 .i64 F rfl (by kernel_rfl) (by kernel_rfl) (by kernel_rfl) (by kernel_rfl) (get_lt hgq) (recs_some h.s (m := tq) (get_lt hgq)) (⟨(), rfl, (SameB.refl _ _ rfl), S⟩)
                refine ⟨?_, ?_⟩
                · refine ⟨_, rfl, rfl, by kernel_rfl, ?_⟩
                  rintro D ⟨⟩ a z S F
                  refine ⟨by kernel_rfl, ?_⟩
                  exact op_loadK _ _ As (tq * 2) [.int .i64 gq.1, .int .i64 gq.2] F rfl (by kernel_rfl) (by kernel_rfl) (by kernel_rfl) (by simp) (cOldK0 S 0 spC_len h.s rfl hgq (by kernel_rfl)) (⟨(), rfl, (SameB.refl _ _ rfl), S⟩)
                refine ⟨?_, ?_⟩
                · refine ⟨_, rfl, rfl, by kernel_rfl, ?_⟩
                  rintro D ⟨⟩ a z S F
                  refine ⟨by kernel_rfl, ?_⟩
                  refine op_fn F (by kernel_rfl) (rfar_any pn.1 pn.2 gq.1 gq.2 _) ?_
                  rintro e z ⟨rfl, hb⟩
                  have S := S.grow hb
                  exact ⟨_, rfl, (), rfl, (SameB.refl _ _ rfl), S⟩
                refine ⟨?_, ?_⟩
                · refine ⟨_, rfl, rfl, by kernel_rfl, ?_⟩
                  rintro D ⟨⟩ a z S F
                  refine ⟨by kernel_rfl, ?_⟩
                  exact op_load _ _ (some ⟨b1, 0, none⟩) 0 (.slice As x.spots.length cs) F rfl (by kernel_rfl) (by kernel_rfl) (cBox S 1 rfl (j := 0) rfl) (⟨(), rfl, (SameB.refl _ _ rfl), S⟩)
                refine ⟨?_, ?_⟩
                · refine ⟨_, rfl, rfl, by kernel_rfl, ?_⟩
                  rintro D ⟨⟩ a z S F
                  refine ⟨by kernel_rfl, ?_⟩
                  exact op_index _ 106 _ _ As x.spots.length cs q 2 .i64 F rfl (by kernel_rfl) (by kernel_rfl) (by kernel_rfl) (by kernel_rfl) (get_lt hpq) (recs_some h.s (m := q) (get_lt hpq)) (⟨(), rfl, (SameB.refl _ _ rfl), S⟩)
                refine ⟨?_, ?_⟩
                · refine ⟨_, rfl, rfl, by kernel_rfl, ?_⟩
                  rintro D ⟨⟩ a z S F
                  refine ⟨by kernel_rfl, ?_⟩
                  exact op_loadK _ _ As (q * 2) [.int .i64 pq.1, .int .i64 pq.2] F rfl (by kernel_rfl) (by kernel_rfl) (by kernel_rfl) (by simp) (cOldK0 S 0 spC_len h.s rfl hpq (by kernel_rfl)) (⟨(), rfl, (SameB.refl _ _ rfl), S⟩)
                refine ⟨?_, ?_⟩
                · refine ⟨_, rfl, rfl, by kernel_rfl, ?_⟩
                  rintro D ⟨⟩ a z S F
                  refine ⟨by kernel_rfl, ?_⟩
                  exact op_load _ _ (some ⟨b1, 0, none⟩) 0 (.slice As x.spots.length cs) F rfl (by kernel_rfl) (by kernel_rfl) (cBox S 1 rfl (j := 0) rfl) (⟨(), rfl, (SameB.refl _ _ rfl), S⟩)
                refine ⟨?_, ?_⟩
                · refine ⟨_, rfl, rfl, by kernel_rfl, ?_⟩
                  rintro D ⟨⟩ a z S F
                  refine ⟨by kernel_rfl, ?_⟩
                  exact op_index _ 106 _ _ As x.spots.length cs tq 2 .i64 F rfl (by kernel_rfl) (by kernel_rfl) (by kernel_rfl) (by kernel_rfl) (get_lt hgq) (recs_some h.s (m := tq) (get_lt hgq)) (⟨(), rfl, (SameB.refl _ _ rfl), S⟩)
                refine ⟨?_, ?_⟩
                · refine ⟨_, rfl, rfl, by kernel_rfl, ?_⟩
                  rintro D ⟨⟩ a z S F
                  refine ⟨by kernel_rfl, ?_⟩
                  exact op_loadK _ _ As (tq * 2) [.int .i64 gq.1, .int .i64 gq.2] F rfl (by kernel_rfl) (by kernel_rfl) (by kernel_rfl) (by simp) (cOldK0 S 0 spC_len h.s rfl hgq (by kernel_rfl)) (⟨(), rfl, (SameB.refl _ _ rfl), S⟩)
                refine ⟨?_, ?_⟩
                · refine ⟨_, rfl, rfl, by kernel_rfl, ?_⟩
                  rintro D ⟨⟩ a z S F
                  refine ⟨by kernel_rfl, ?_⟩
                  refine op_fn F (by kernel_rfl) (rfar_any pq.1 pq.2 gq.1 gq.2 _) ?_
                  rintro e z ⟨rfl, hb⟩
                  have S := S.grow hb
                  exact ⟨_, rfl, (), rfl, (SameB.refl _ _ rfl), S⟩
                refine ⟨?_, ?_⟩
                · refine ⟨_, rfl, rfl, by kernel_rfl, ?_⟩
                  rintro D ⟨⟩ a z S F
                  refine ⟨by kernel_rfl, ?_⟩
                  exact op_pure F (v0 := .bool (decide ((farI pn.1 pn.2 gq.1 gq.2 : Int) ≥ (farI pq.1 pq.2 gq.1 gq.2 : Int)))) (v := .bool false) (by kernel_rfl) (geqF ht17) ⟨(), rfl, (SameB.refl _ _ rfl), S⟩
                trivial
              · rintro ⟨⟩ a z F S
                have F := F.sub (l := [(2, .int .i64 (tq : Nat)), (3, .int .u64 am), (4, .pointer (some ⟨b1, 0, none⟩)), (8, .pointer (some ⟨b2, 0, none⟩)), (11, .slice An N.length cn), (12, .slice Am E.length cm), (13, .int .i64 (q : Nat)), (14, .int .i64 (nx : Nat)), (85, .bool false)]) ⟨by kernel_rfl, by kernel_rfl, by kernel_rfl, by kernel_rfl, by kernel_rfl, by kernel_rfl, by kernel_rfl, by kernel_rfl, by kernel_rfl, trivial⟩
                have S : Sat w z [rest w (· < w.heap.size), box b1 25 [.slice As x.spots.length cs, .slice Ae x.edges.length ce], box b2 45 [.slice none 0 0, .slice none 0 0, .slice none 0 0], row 3 1 (.slice An N.length cn) N.length (N.flatMap iC_i64), row 3 1 (.slice Am E.length cm) E.length (E.flatMap iC_i64)] := S
                refine then_n ?_
                refine c_f F rfl ?_
                refine wp_skip ?_
                refine then_n ?_
                refine s_reg ?_
                refine l_do F rfl rfl (op_loadK _ _ (some ⟨b1, 0, none⟩) 0 [.slice As x.spots.length cs, .slice Ae x.edges.length ce] F rfl (by kernel_rfl) (by kernel_rfl) (by kernel_rfl) (by simp) (cBoxK S 1 rfl 0 (by kernel_rfl)) (fun a F => ?_))
                refine l_pure 1 (fun L => (88, .int .i64 (q : Nat)) :: L) F (by kernel_rfl) fun a F => ?_
                refine l_do F rfl rfl (op_fn F (by kernel_rfl) (rsteps_any _ As cs Ae ce x (h.move S rfl) ok (q : Nat)) ?_)
                rintro e z ⟨A18, c19, rfl, g⟩
                have S := S.pushThings g
                refine ⟨_, rfl, ?_⟩
                intro a F
                refine l_pure 1 (fun L => (15, .slice A18 ((stepsP x (q : Nat)).length) c19) :: L) F (by kernel_rfl) fun a F => ?_
                refine l_then ?_
                refine s_reg ?_
                refine l_pure 1 (fun L => (16, .int .i64 (-1)) :: L) F (by kernel_rfl) fun a F => ?_
                refine l_then ?_
                refine wp_seq ?_
                refine s_reg ?_
                refine l_pure 2 (fun L => (91, .int .i64 ((stepsP x (q : Nat)).length : Nat)) :: (90, .slice A18 ((stepsP x (q : Nat)).length) c19) :: L) F (by kernel_rfl) fun a F => ?_
                refine l_do F rfl rfl (op_pure F (v0 := .int .i64 (IntKind.wrap .i64 (((stepsP x (q : Nat)).length : Nat) - 1))) (v := .int .i64 (((stepsP x (q : Nat)).length : Nat) - 1)) (by kernel_rfl) (wr_i64 (by omega) (by omega)) fun a F => ?_)
                refine l_pure 1 (fun L => (17, .int .i64 (((stepsP x (q : Nat)).length : Nat) - 1)) :: L) F (by kernel_rfl) fun a F => ?_
                refine l_then ?_
                refine wp_block ?_
                refine wp_loop_m (fun m a z => ∃ (k : Nat) (ev : Int), m = k ∧ (k ≤ (stepsP x (q : Nat)).length) ∧ (ev = backE x (q : Nat) (nx : Nat) am k) ∧ Fr a 138 [(2, .int .i64 (tq : Nat)), (3, .int .u64 am), (4, .pointer (some ⟨b1, 0, none⟩)), (8, .pointer (some ⟨b2, 0, none⟩)), (11, .slice An N.length cn), (12, .slice Am E.length cm), (14, .int .i64 (nx : Nat)), (15, .slice A18 ((stepsP x (q : Nat)).length) c19), (16, .int .i64 ev), (17, .int .i64 ((k : Nat) - 1))] ∧ Sat w z [rest w (· < w.heap.size), box b1 25 [.slice As x.spots.length cs, .slice Ae x.edges.length ce], box b2 45 [.slice none 0 0, .slice none 0 0, .slice none 0 0], row 3 1 (.slice An N.length cn) N.length (N.flatMap iC_i64), row 3 1 (.slice Am E.length cm) E.length (E.flatMap iC_i64), row 126 5 (.slice A18 ((stepsP x (q : Nat)).length) c19) ((stepsP x (q : Nat)).length) ((stepsP x (q : Nat)).flatMap stC)]) _ ⟨(stepsP x (q : Nat)).length, -1, rfl, (Nat.le_refl _), (backE_end _ _ _ _).symm, F.sub ⟨by kernel_rfl, by kernel_rfl, by kernel_rfl, by kernel_rfl, by kernel_rfl, by kernel_rfl, by kernel_rfl, by kernel_rfl, by kernel_rfl, by kernel_rfl, trivial⟩, S⟩ ?_
                rintro m a z ⟨k, ev, hm, hf20, hf21, F, S⟩
                have hbe := hf21
                refine wp_seq ?_
                refine s_reg ?_
                refine l_pure 1 (fun L => (93, .int .i64 ((k : Nat) - 1)) :: L) F (by kernel_rfl) fun a F => ?_
                by_cases ht22 : (0 : Int) ≤ ((k : Nat) - 1 : Int)
                · skip
                  obtain ⟨kp, rfl⟩ : ∃ kp, k = kp + 1 := ⟨k - 1, by omega⟩
                  rw [show ((kp + 1 : Nat) : Int) - 1 = (kp : Nat) from by omega] at F
                  obtain ⟨s2, hs2⟩ : ∃ s2, (stepsP x (q : Nat))[kp]? = some s2 := ⟨_, List.getElem?_eq_getElem (by omega)⟩
                  refine l_do F rfl rfl (op_pure F (v0 := .bool (decide (((kp : Nat) : Int) ≥ (0 : Int)))) (v := .bool true) (by kernel_rfl) (geqT (by omega)) fun a F => ?_)
                  refine l_then ?_
                  refine c_t F rfl ?_
                  refine wp_skip ?_
                  refine then_n ?_
                  refine wp_seq ?_
                  refine wp_block ?_
                  refine s_reg ?_
                  refine l_pure 2 (fun L => (98, .int .i64 (kp : Nat)) :: (97, .slice A18 ((stepsP x (q : Nat)).length) c19) :: L) F (by kernel_rfl) fun a F => ?_
                  refine l_do F rfl rfl (op_index _ 126 _ _ A18 ((stepsP x (q : Nat)).length) c19 kp 5 .i64 F rfl (by kernel_rfl) (by kernel_rfl) (by kernel_rfl) (by kernel_rfl) (get_lt hs2) (row_some S 5 rfl (m := kp) (get_lt hs2)) (fun a F => ?_))
                  refine l_do F rfl rfl (op_field _ _ _ A18 (kp * 5) 1 F rfl (by kernel_rfl) (by kernel_rfl) (row_some S 5 rfl (m := kp) (get_lt hs2)) (fun a F => ?_))
                  refine l_do F rfl rfl (op_load _ _ A18 (kp * 5 + 1) (.int .i64 s2.to) F rfl (by kernel_rfl) (by kernel_rfl) (cRec S 5 stC_len rfl 1 hs2 rfl) (fun a F => ?_))
                  refine l_pure 1 (fun L => (102, .int .i64 (nx : Nat)) :: L) F (by kernel_rfl) fun a F => ?_
                  by_cases ht23 : (s2.to : Int) = ((nx : Nat) : Int)
                  · skip
                    refine l_do F rfl rfl (op_pure F (v0 := .bool ((s2.to : Int) == ((nx : Nat) : Int))) (v := .bool true) (by kernel_rfl) (eqlT ht23) fun a F => ?_)
                    refine l_pure 3 (fun L => (106, .int .i64 (kp : Nat)) :: (105, .slice A18 ((stepsP x (q : Nat)).length) c19) :: (104, .bool true) :: L) F (by kernel_rfl) fun a F => ?_
                    refine l_do F rfl rfl (op_index _ 126 _ _ A18 ((stepsP x (q : Nat)).length) c19 kp 5 .i64 F rfl (by kernel_rfl) (by kernel_rfl) (by kernel_rfl) (by kernel_rfl) (get_lt hs2) (row_some S 5 rfl (m := kp) (get_lt hs2)) (fun a F => ?_))
                    refine l_do F rfl rfl (op_field _ _ _ A18 (kp * 5) 2 F rfl (by kernel_rfl) (by kernel_rfl) (row_some S 5 rfl (m := kp) (get_lt hs2)) (fun a F => ?_))
                    refine l_do F rfl rfl (op_load _ _ A18 (kp * 5 + 2) (.int .u64 s2.can) F rfl (by kernel_rfl) (by kernel_rfl) (cRec S 5 stC_len rfl 2 hs2 rfl) (fun a F => ?_))
                    refine l_pure 1 (fun L => (110, .int .u64 am) :: L) F (by kernel_rfl) fun a F => ?_
                    by_cases ht24 : (am : Int) ≤ (s2.can : Int)
                    · skip
                      refine l_do F rfl rfl (op_pure F (v0 := .bool (decide ((s2.can : Int) ≥ (am : Int)))) (v := .bool true) (by kernel_rfl) (geqT ht24) fun a F => ?_)
                      refine l_pure 1 (fun L => (112, .bool true) :: L) F (by kernel_rfl) fun a F => ?_
                      refine l_then ?_
                      refine c_t F rfl ?_
                      refine wp_region_list ?_
                      refine l_pure 2 (fun L => (114, .int .i64 (kp : Nat)) :: (113, .slice A18 ((stepsP x (q : Nat)).length) c19) :: L) F (by kernel_rfl) fun a F => ?_
                      refine l_do F rfl rfl (op_index _ 126 _ _ A18 ((stepsP x (q : Nat)).length) c19 kp 5 .i64 F rfl (by kernel_rfl) (by kernel_rfl) (by kernel_rfl) (by kernel_rfl) (get_lt hs2) (row_some S 5 rfl (m := kp) (get_lt hs2)) (fun a F => ?_))
                      refine l_do F rfl rfl (op_field _ _ _ A18 (kp * 5) 0 F rfl (by kernel_rfl) (by kernel_rfl) (row_some S 5 rfl (m := kp) (get_lt hs2)) (fun a F => ?_))
                      refine l_do F rfl rfl (op_load _ _ A18 (kp * 5) (.int .i64 s2.edge) F rfl (by kernel_rfl) (by kernel_rfl) (cRec S 5 stC_len rfl 0 hs2 rfl) (fun a F => ?_))
                      refine l_pure 1 (fun L => (16, .int .i64 s2.edge) :: L) F (by kernel_rfl) fun a F => ?_
                      refine l_nil (inb_n ?_)
                      refine then_n ?_
                      refine wp_region_list ?_
                      refine l_pure 1 (fun L => (95, .int .i64 (kp : Nat)) :: L) F (by kernel_rfl) fun a F => ?_
                      refine l_do F rfl rfl (op_pure F (v0 := .int .i64 (IntKind.wrap .i64 ((kp : Nat) - 1))) (v := .int .i64 ((kp : Nat) - 1)) (by kernel_rfl) (wr_i64 (by omega) (by omega)) fun a F => ?_)
                      refine l_pure 1 (fun L => (17, .int .i64 ((kp : Nat) - 1)) :: L) F (by kernel_rfl) fun a F => ?_
                      refine l_then ?_
                      exact ⟨_, (by omega), kp, s2.edge, rfl, (by omega), ((backE_step hs2).1 (by unfold isTo; exact decide_eq_true (by omega))).symm, F.sub ⟨by kernel_rfl, by kernel_rfl, by kernel_rfl, by kernel_rfl, by kernel_rfl, by kernel_rfl, by kernel_rfl, by kernel_rfl, by kernel_rfl, by kernel_rfl, trivial⟩, S⟩
                    · skip
                      refine l_do F rfl rfl (op_pure F (v0 := .bool (decide ((s2.can : Int) ≥ (am : Int)))) (v := .bool false) (by kernel_rfl) (geqF ht24) fun a F => ?_)
                      refine l_pure 1 (fun L => (112, .bool false) :: L) F (by kernel_rfl) fun a F => ?_
                      refine l_then ?_
                      refine c_f F rfl ?_
                      refine wp_skip ?_
                      refine inb_n ?_
                      refine then_n ?_
                      refine wp_region_list ?_
                      refine l_pure 1 (fun L => (95, .int .i64 (kp : Nat)) :: L) F (by kernel_rfl) fun a F => ?_
                      refine l_do F rfl rfl (op_pure F (v0 := .int .i64 (IntKind.wrap .i64 ((kp : Nat) - 1))) (v := .int .i64 ((kp : Nat) - 1)) (by kernel_rfl) (wr_i64 (by omega) (by omega)) fun a F => ?_)
                      refine l_pure 1 (fun L => (17, .int .i64 ((kp : Nat) - 1)) :: L) F (by kernel_rfl) fun a F => ?_
                      refine l_then ?_
                      exact ⟨_, (by omega), kp, ev, rfl, (by omega), (by rw [hbe]; exact ((backE_step hs2).2 (by unfold isTo; exact decide_eq_false (by omega))).symm), F.sub ⟨by kernel_rfl, by kernel_rfl, by kernel_rfl, by kernel_rfl, by kernel_rfl, by kernel_rfl, by kernel_rfl, by kernel_rfl, by kernel_rfl, by kernel_rfl, trivial⟩, S⟩
                  · skip
                    refine l_do F rfl rfl (op_pure F (v0 := .bool ((s2.to : Int) == ((nx : Nat) : Int))) (v := .bool false) (by kernel_rfl) (eqlF ht23) fun a F => ?_)
                    refine l_pure 9 (fun L => (112, .bool false) :: (111, undef) :: (110, undef) :: (109, undef) :: (108, undef) :: (107, undef) :: (106, undef) :: (105, undef) :: (104, .bool false) :: L) F (by kernel_rfl) fun a F => ?_
                    refine l_then ?_
                    refine c_f F rfl ?_
                    refine wp_skip ?_
                    refine inb_n ?_
                    refine then_n ?_
                    refine wp_region_list ?_
                    refine l_pure 1 (fun L => (95, .int .i64 (kp : Nat)) :: L) F (by kernel_rfl) fun a F => ?_
                    refine l_do F rfl rfl (op_pure F (v0 := .int .i64 (IntKind.wrap .i64 ((kp : Nat) - 1))) (v := .int .i64 ((kp : Nat) - 1)) (by kernel_rfl) (wr_i64 (by omega) (by omega)) fun a F => ?_)
                    refine l_pure 1 (fun L => (17, .int .i64 ((kp : Nat) - 1)) :: L) F (by kernel_rfl) fun a F => ?_
                    refine l_then ?_
                    exact ⟨_, (by omega), kp, ev, rfl, (by omega), (by rw [hbe]; exact ((backE_step hs2).2 (by unfold isTo; exact decide_eq_false (by omega))).symm), F.sub ⟨by kernel_rfl, by kernel_rfl, by kernel_rfl, by kernel_rfl, by kernel_rfl, by kernel_rfl, by kernel_rfl, by kernel_rfl, by kernel_rfl, by kernel_rfl, trivial⟩, S⟩
                · skip
                  have hev : ev = s1.edge := by rw [hbe, show k = 0 from by omega, backE_zero (ix_lt hst), hed1]
                  refine l_do F rfl rfl (op_pure F (v0 := .bool (decide (((k : Nat) - 1 : Int) ≥ (0 : Int)))) (v := .bool false) (by kernel_rfl) (geqF ht22) fun a F => ?_)
                  refine l_then ?_
                  refine c_f F rfl ?_
                  refine wp_exit ?_
                  refine then_x ?_
                  refine then_x ?_
                  refine inb_x ?_
                  refine then_n ?_
                  refine s_reg ?_
                  refine l_pure 2 (fun L => (119, .int .i64 (nx : Nat)) :: (118, .slice An N.length cn) :: L) F (by kernel_rfl) fun a F => ?_
                  refine l_do F rfl rfl (op_buildSlice S _ 1 _ 3 1 iC_i64 ([(nx : Nat)] : List Int) F rfl (by kernel_rfl) (by kernel_rfl) (by kernel_rfl) (by unfold maxLen; omega) fun b25 z S a F => ?_)
                  refine l_do F rfl rfl (op_append S 3 _ _ _ 3 (.int .i64 0) 1 8 N ([(nx : Nat)] : List Int) iC_i64 (some ⟨b25, 0, none⟩) 1 F iC_len_i64 (fun _ => rfl) rfl rfl (by kernel_rfl) (by kernel_rfl) rfl rfl rfl (by kernel_rfl) (by kernel_rfl) (row_none (S.rowOf (i := 6) rfl)) (src_row (S.rowOf (i := 6) rfl)) (by first | omega | (simp; omega)) fun A26 c27 z S a F => ?_)
                  refine l_pure 1 (fun L => (11, .slice A26 ((N ++ ([(nx : Nat)] : List Int)).length) c27) :: L) F (by kernel_rfl) fun a F => ?_
                  refine l_then ?_
                  refine wp_region_list ?_
                  refine l_pure 2 (fun L => (123, .int .i64 ev) :: (122, .slice Am E.length cm) :: L) F (by kernel_rfl) fun a F => ?_
                  refine l_do F rfl rfl (op_buildSlice S _ 1 _ 3 1 iC_i64 ([ev] : List Int) F rfl (by kernel_rfl) (by kernel_rfl) (by kernel_rfl) (by unfold maxLen; omega) fun b28 z S a F => ?_)
                  refine l_do F rfl rfl (op_append S 4 _ _ _ 3 (.int .i64 0) 1 8 E ([ev] : List Int) iC_i64 (some ⟨b28, 0, none⟩) 1 F iC_len_i64 (fun _ => rfl) rfl rfl (by kernel_rfl) (by kernel_rfl) rfl rfl rfl (by kernel_rfl) (by kernel_rfl) (row_none (S.rowOf (i := 7) rfl)) (src_row (S.rowOf (i := 7) rfl)) (by first | omega | (simp; omega)) fun A29 c30 z S a F => ?_)
                  refine l_pure 1 (fun L => (12, .slice A29 ((E ++ ([ev] : List Int)).length) c30) :: L) F (by kernel_rfl) fun a F => ?_
                  refine l_nil (inb_n ?_)
                  refine then_n ?_
                  exact ⟨_, (by omega), f - 1, (N ++ ([(nx : Nat)] : List Int)), (E ++ ([ev] : List Int)), A26, c27, A29, c30, nx, rfl, (by have h9 := way_next hw (nx := (nx : Nat)) (am := am) (by rw [hql]; exact hst); rw [hql, hed1] at h9; rw [hev]; exact h9), (by simp; omega), (by rw [← hgo, show f + 1 = (f - 1 + 1) + 1 from by omega, go_on (by rw [hql]; exact hqt) hns, hql, hgoal, hnv, hed1, hev]), (last_snoc _ _ _), hnb, (fun h => by simp at h), F.sub ⟨by kernel_rfl, by kernel_rfl, by kernel_rfl, by kernel_rfl, by kernel_rfl, by kernel_rfl, trivial⟩, (S.pick [0, 1, 2, 3, 4] (by decide))⟩
  · skip
    have hr := ht3
    have hgr : greedyP x from_ to am = (noRt, rightP x from_ to am) := if_pos hr
    refine l_do F rfl rfl (op_pure F (v0 := .bool ((rightP x from_ to am : Int) != (0 : Int))) (v := .bool true) (by kernel_rfl) (neqT ht3) fun a F => ?_)
    refine l_then ?_
    refine c_t F rfl ?_
    refine s_reg ?_
    refine l_pure 2 (fun L => (28, .int .i64 (rightP x from_ to am)) :: (27, .agg #[.slice none 0 0, .slice none 0 0, .slice none 0 0]) :: L) F (by kernel_rfl) fun a F => ?_
    refine l_do F rfl rfl (op_storeB S 2 _ _ _ b2 0 (.agg #[.slice none 0 0, .slice none 0 0, .slice none 0 0]) F rfl rfl (by kernel_rfl) (by kernel_rfl) (by kernel_rfl) (by kernel_rfl) (by kernel_rfl) fun z S a F => ?_)
    refine l_pure 1 (fun L => (9, .int .i64 (rightP x from_ to am)) :: L) F (by kernel_rfl) fun a F => ?_
    refine l_then ?_
    refine wp_ret ?_
    refine then_r (?_)
    have S := ((((S.nilRow 3 1).nilRow 3 1).nilRow 26 1).pushBag)
    have S := bag_add (R := []) noM S 6 3 4 5 rfl rfl rfl rfl (by decide) (by decide) (by decide) (by decide) (by decide) (by decide)
    exact fin F [.cell 8 45, .tmp 9] [.agg #[.slice none 0 0, .slice none 0 0, .slice none 0 0], .int .i64 (rightP x from_ to am)] rfl ⟨⟨_, by kernel_rfl, resK S 2 (cs := [.slice none 0 0, .slice none 0 0, .slice none 0 0]) rfl (by kernel_rfl) (by kernel_rfl) (by simp)⟩, by kernel_rfl, trivial⟩ (.tuple #[.agg #[.slice none 0 0, .slice none 0 0, .slice none 0 0], .int .i64 (rightP x from_ to am)]) rfl ⟨noM, by rw [hgr]; rfl, by rw [hgr]; rfl, S.pick [0, 6] (by decide)⟩
end Go.Proofs.Ytcfpbemoocegfaa
