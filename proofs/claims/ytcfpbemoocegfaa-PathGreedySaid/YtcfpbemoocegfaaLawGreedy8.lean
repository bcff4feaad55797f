/- The law PathGreedy. -/
import Derived.Test.YtcfpbemoocegfaaRGreedy
import Derived.Test.YtcfpbemoocegfaaLawAll8
namespace Go.Proofs.Ytcfpbemoocegfaa
set_option linter.unusedVariables false
set_option linter.unusedSimpArgs false
set_option linter.unnecessarySimpa false
open Go Go.RowKit

theorem greedy_ok {x : Wb} {from_ to am : Int} {m : RtM} (h : m.r = (greedyP x from_ to am).1) : m.r.nodes.length ≤ 8 ∧ m.r.edges.length ≤ 7 ∧ m.r.edges.length ≤ m.r.amts.length ∧ m.r.amts.length ≤ 8 := by
  have key : ∀ (f : Nat) (N E : List Int), WayOk x N E → E.length + f ≤ 8 → 1 ≤ f → ∀ N' E', goP x to am f N E = some (N', E') → WayOk x N' E' ∧ E'.length ≤ 7 := by
    intro f
    induction f with
    | zero => intro N E _ _ h1; omega
    | succ f ih =>
      intro N E hw hl h1 N' E' hg
      unfold goP at hg
      split at hg
      · cases hg; exact ⟨hw, by omega⟩
      · split at hg
        · cases hg
        · rename_i hs
          unfold stuckP at hs
          have hs1 : ¬ nearP x (N.getLastD 0) (goalP x to) am < 0 := fun h => hs (.inl h)
          have hs2 : ¬ 7 ≤ E.length := fun h => hs (.inr (.inl h))
          refine ih _ _ (way_next hw (near_step hs1)) (by simp; omega) ?_ N' E' hg
          cases f with
          | zero => unfold goP at hg; cases hg
          | succ f => omega
  rw [h]
  unfold greedyP
  split
  · exact ⟨Nat.zero_le _, Nat.zero_le _, Nat.zero_le _, Nat.zero_le _⟩
  · split
    · exact ⟨by decide, by decide, by decide, by decide⟩
    · rename_i N E hg
      obtain ⟨hw, hl⟩ := key 8 _ _ (way_one x from_) (by simp) (by decide) N E hg
      split
      · exact ⟨by decide, by decide, by decide, by decide⟩
      · rename_i r hr
        obtain ⟨e, h0, _⟩ := fill_eq hr
        have hwl := hw.len
        rw [e]
        dsimp only
        rw [backP_len _ h0, feesP_len hwl]
        omega
set_option maxRecDepth 100000 in
set_option maxHeartbeats 4000000 in
theorem greedy_law (w : World) (As : Option Addr) (cs : Nat) (Ae : Option Addr) (ce : Nat) (x : Wb) (h : WebAt w As cs Ae ce x) (ok : x.Ok) (from_ to am : Int) (hua : U64 am) : Calls Try.prog 7 #[.agg #[.slice As x.spots.length cs, .slice Ae x.edges.length ce], .int .i64 from_, .int .i64 to, .int .u64 am] w fun e w' => e = .returned (.bool true) ∧ Below w.heap.size w w' := by
  refine enter 46 Try.func7 rfl rfl rfl fun a F => ?_
  have S := Sat.pushRest w
  refine s_reg ?_
  refine l_do F rfl rfl (op_box S _ _ (.agg #[.slice As x.spots.length cs, .slice Ae x.edges.length ce]) F rfl (by kernel_rfl) fun b1 z S a F => ?_)
  refine l_pure 1 (fun L => (8, .bool false) :: L) F (by kernel_rfl) fun a F => ?_
  refine l_then ?_
  refine wp_seq ?_
  refine s_reg ?_
  refine l_do F rfl rfl (op_loadK _ _ (some ⟨b1, 0, none⟩) 0 [.slice As x.spots.length cs, .slice Ae x.edges.length ce] F rfl (by kernel_rfl) (by kernel_rfl) (by kernel_rfl) (by simp) (cBoxK S 1 rfl 0 (by kernel_rfl)) (fun a F => ?_))
  cases hb2 : (lightP x) with
  | false =>
    refine l_do F rfl rfl (op_fn F (by kernel_rfl) (light_any _ As cs Ae ce x) ?_)
    rintro e z ⟨rfl, hb⟩
    have S := S.grow hb
    refine ⟨_, rfl, ?_⟩
    rw [hb2]
    intro a F
    refine l_pure 1 (fun L => (15, .bool true) :: L) F (by kernel_rfl) fun a F => ?_
    refine l_then ?_
    refine c_t F rfl ?_
    refine s_reg ?_
    refine l_do F rfl rfl (op_fn F (by kernel_rfl) (awake08_any _) ?_)
    rintro e z ⟨rfl, hb⟩
    have S := S.grow hb
    refine ⟨_, rfl, ?_⟩
    intro a F
    refine l_pure 1 (fun L => (8, .bool true) :: L) F (by kernel_rfl) fun a F => ?_
    refine l_then ?_
    refine wp_ret ?_
    refine then_r (?_)
    exact fin F [.tmp 8] [.bool true] rfl ⟨by kernel_rfl, trivial⟩ (.bool true) rfl ⟨rfl, S.below (i := 0) rfl⟩
  | true =>
    obtain ⟨l1, l2, l3, l4⟩ := light_small hb2
    refine l_do F rfl rfl (op_fn F (by kernel_rfl) (light_any _ As cs Ae ce x) ?_)
    rintro e z ⟨rfl, hb⟩
    have S := S.grow hb
    refine ⟨_, rfl, ?_⟩
    rw [hb2]
    intro a F
    refine l_pure 1 (fun L => (15, .bool false) :: L) F (by kernel_rfl) fun a F => ?_
    refine l_then ?_
    refine c_f F rfl ?_
    refine wp_skip ?_
    refine then_n ?_
    refine s_reg ?_
    refine l_do F rfl rfl (op_loadK _ _ (some ⟨b1, 0, none⟩) 0 [.slice As x.spots.length cs, .slice Ae x.edges.length ce] F rfl (by kernel_rfl) (by kernel_rfl) (by kernel_rfl) (by simp) (cBoxK S 1 rfl 0 (by kernel_rfl)) (fun a F => ?_))
    refine l_do F rfl rfl (op_fn F (by kernel_rfl) (to_any _ As cs Ae ce x (h.move S rfl) ok ⟨l1, l2⟩) ?_)
    rintro e z ⟨A3, c4, A5, c6, rfl, g⟩
    have S := S.pushThings g
    refine ⟨_, rfl, ?_⟩
    intro a F
    refine l_pure 3 (fun L => (22, .int .u64 am) :: (21, .int .i64 to) :: (20, .int .i64 from_) :: L) F (by kernel_rfl) fun a F => ?_
    refine l_do F rfl rfl (op_fn F (by kernel_rfl) (pgreedy_any _ A3 c4 A5 c6 x (WebAt.ofNew (x := x) (w := w) S (i := 2) (j := 3) rfl rfl ⟨l1, l2⟩) ok from_ to am hua (by omega)) ?_)
    rintro e z ⟨mb, rfl, hmb1, g⟩
    have S := S.pushThings g
    refine ⟨_, rfl, ?_⟩
    intro a F
    refine l_pure 3 (fun L => (25, .int .i64 ((greedyP x from_ to am).2)) :: (24, .agg #[.slice mb.A1 mb.r.nodes.length mb.c1, .slice mb.A2 mb.r.edges.length mb.c2, .slice mb.A3 mb.r.amts.length mb.c3]) :: (17, .tuple #[.agg #[.slice mb.A1 mb.r.nodes.length mb.c1, .slice mb.A2 mb.r.edges.length mb.c2, .slice mb.A3 mb.r.amts.length mb.c3], .int .i64 ((greedyP x from_ to am).2)]) :: L) F (by kernel_rfl) fun a F => ?_
    refine l_do F rfl rfl (op_alloc S _ (.agg #[.slice none 0 0, .slice none 0 0, .slice none 0 0]) rfl (by kernel_rfl) fun b7 z S a F => ?_)
    refine l_do F rfl rfl (op_storeB S 5 _ _ _ b7 0 (.agg #[.slice mb.A1 mb.r.nodes.length mb.c1, .slice mb.A2 mb.r.edges.length mb.c2, .slice mb.A3 mb.r.amts.length mb.c3]) F rfl rfl (by kernel_rfl) (by kernel_rfl) (by kernel_rfl) (by kernel_rfl) (by kernel_rfl) fun z S a F => ?_)
    refine l_pure 1 (fun L => (10, .int .i64 ((greedyP x from_ to am).2)) :: L) F (by kernel_rfl) fun a F => ?_
    refine l_then ?_
    refine s_reg ?_
    refine l_do F rfl rfl (op_loadK _ _ (some ⟨b1, 0, none⟩) 0 [.slice As x.spots.length cs, .slice Ae x.edges.length ce] F rfl (by kernel_rfl) (by kernel_rfl) (by kernel_rfl) (by simp) (cBoxK S 1 rfl 0 (by kernel_rfl)) (fun a F => ?_))
    refine l_pure 3 (fun L => (30, .int .u64 am) :: (29, .int .i64 to) :: (28, .int .i64 from_) :: L) F (by kernel_rfl) fun a F => ?_
    refine l_do F rfl rfl (op_fn F (by kernel_rfl) (rgreedy_any _ As cs Ae ce x (h.move S rfl) ok from_ to am hua (by omega)) ?_)
    rintro e z ⟨mc, rfl, hmc1, g⟩
    have S := S.pushThings g
    obtain ⟨B1, d1, B2, d2, B3, d3, r9⟩ := mc
    have hrr : r9 = mb.r := hmc1.trans hmb1.symm
    subst hrr
    obtain ⟨o1, o2, o3, o4⟩ := greedy_ok hmb1
    refine ⟨_, rfl, ?_⟩
    intro a F
    refine l_pure 3 (fun L => (33, .int .i64 ((greedyP x from_ to am).2)) :: (32, .agg #[.slice B1 mb.r.nodes.length d1, .slice B2 mb.r.edges.length d2, .slice B3 mb.r.amts.length d3]) :: (26, .tuple #[.agg #[.slice B1 mb.r.nodes.length d1, .slice B2 mb.r.edges.length d2, .slice B3 mb.r.amts.length d3], .int .i64 ((greedyP x from_ to am).2)]) :: L) F (by kernel_rfl) fun a F => ?_
    refine l_do F rfl rfl (op_alloc S _ (.agg #[.slice none 0 0, .slice none 0 0, .slice none 0 0]) rfl (by kernel_rfl) fun b8 z S a F => ?_)
    refine l_do F rfl rfl (op_storeB S 7 _ _ _ b8 0 (.agg #[.slice B1 mb.r.nodes.length d1, .slice B2 mb.r.edges.length d2, .slice B3 mb.r.amts.length d3]) F rfl rfl (by kernel_rfl) (by kernel_rfl) (by kernel_rfl) (by kernel_rfl) (by kernel_rfl) fun z S a F => ?_)
    refine l_pure 1 (fun L => (12, .int .i64 ((greedyP x from_ to am).2)) :: L) F (by kernel_rfl) fun a F => ?_
    refine l_then ?_
    refine wp_seq ?_
    refine region_gx (fun D => fun (_ : Unit) => [rest w (· < w.heap.size), box b1 25 [.slice As x.spots.length cs, .slice Ae x.edges.length ce], row 107 2 (.slice A3 x.spots.length c4) x.spots.length (x.spots.flatMap spC), row 62 8 (.slice A5 x.edges.length c6) x.edges.length (x.edges.flatMap edC), bag ([mb].flatMap rtRows), box b7 47 [.slice mb.A1 mb.r.nodes.length mb.c1, .slice mb.A2 mb.r.edges.length mb.c2, .slice mb.A3 mb.r.amts.length mb.c3], bag ([(⟨B1, d1, B2, d2, B3, d3, mb.r⟩ : RtM)].flatMap rtRows), box b8 45 [.slice B1 mb.r.nodes.length d1, .slice B2 mb.r.edges.length d2, .slice B3 mb.r.amts.length d3]]) (fun (_ : Unit) => [.bool true, .bool true, .int .i64 ((greedyP x from_ to am).2), .int .i64 ((greedyP x from_ to am).2), .bool true, .bool true, .bool true, .agg #[.slice mb.A1 mb.r.nodes.length mb.c1, .slice mb.A2 mb.r.edges.length mb.c2, .slice mb.A3 mb.r.amts.length mb.c3], .agg #[.slice mb.A1 mb.r.nodes.length mb.c1, .slice mb.A2 mb.r.edges.length mb.c2, .slice mb.A3 mb.r.amts.length mb.c3], .agg #[.slice B1 mb.r.nodes.length d1, .slice B2 mb.r.edges.length d2, .slice B3 mb.r.amts.length d3], .bool true, .bool true, .bool true]) [(0, [], [4, 7, 8, 9, 10]), (4, [0], [7, 8, 9, 10]), (7, [0, 4], [8, 10]), (8, [0, 4, 7], [10]), (9, [0, 4], [10]), (10, [0, 4, 7, 8, 9], [])] () rfl (by kernel_rfl) (by kernel_rfl) F S.drew ?_ ?_ ?_ ?_ ?_
    · rintro ⟨⟩; rfl
    · rintro ⟨⟩; kernel_rfl
    · intro D D' x h
      cases x
      rfl
    · refine ⟨?_, ?_⟩
      · refine ⟨_, rfl, rfl, by kernel_rfl, ?_⟩
        rintro D ⟨⟩ a z S F
        refine ⟨by kernel_rfl, ?_⟩
        refine op_fn F (by kernel_rfl) (awake08_any _) ?_
        rintro e z ⟨rfl, hb⟩
        have S := S.grow hb
        exact ⟨_, rfl, (), rfl, (SameB.refl _ _ rfl), S⟩
      refine ⟨?_, ?_⟩
      · refine ⟨_, rfl, rfl, by kernel_rfl, ?_⟩
        rintro D ⟨⟩ a z S F
        refine ⟨by kernel_rfl, ?_⟩
        exact op_pure F (v0 := .bool (((greedyP x from_ to am).2 : Int) == ((greedyP x from_ to am).2 : Int))) (v := .bool true) (by kernel_rfl) (eqlT rfl) ⟨(), rfl, (SameB.refl _ _ rfl), S⟩
      refine ⟨?_, ?_⟩
      · refine ⟨_, rfl, rfl, by kernel_rfl, ?_⟩
        rintro D ⟨⟩ a z S F
        refine ⟨by kernel_rfl, ?_⟩
        exact op_loadK _ _ (some ⟨b7, 0, none⟩) 0 [.slice mb.A1 mb.r.nodes.length mb.c1, .slice mb.A2 mb.r.edges.length mb.c2, .slice mb.A3 mb.r.amts.length mb.c3] F rfl (by kernel_rfl) (by kernel_rfl) (by kernel_rfl) (by simp) (cBoxK S 5 rfl 0 (by kernel_rfl)) (⟨(), rfl, (SameB.refl _ _ rfl), S⟩)
      refine ⟨?_, ?_⟩
      · refine ⟨_, rfl, rfl, by kernel_rfl, ?_⟩
        rintro D ⟨⟩ a z S F
        refine ⟨by kernel_rfl, ?_⟩
        refine op_fn F (by kernel_rfl) (from8_any _ mb.A1 mb.r.nodes.length mb.c1 mb.A2 mb.r.edges.length mb.c2 mb.A3 mb.r.amts.length mb.c3) ?_
        rintro e z ⟨rfl, hb⟩
        have S := S.grow hb
        exact ⟨_, rfl, (), rfl, (SameB.refl _ _ rfl), S⟩
      refine ⟨?_, ?_⟩
      · refine ⟨_, rfl, rfl, by kernel_rfl, ?_⟩
        rintro D ⟨⟩ a z S F
        refine ⟨by kernel_rfl, ?_⟩
        exact op_loadK _ _ (some ⟨b8, 0, none⟩) 0 [.slice B1 mb.r.nodes.length d1, .slice B2 mb.r.edges.length d2, .slice B3 mb.r.amts.length d3] F rfl (by kernel_rfl) (by kernel_rfl) (by kernel_rfl) (by simp) (cBoxK S 7 rfl 0 (by kernel_rfl)) (⟨(), rfl, (SameB.refl _ _ rfl), S⟩)
      refine ⟨?_, ?_⟩
      · refine ⟨_, rfl, rfl, by kernel_rfl, ?_⟩
        rintro D ⟨⟩ a z S F
        refine ⟨by kernel_rfl, ?_⟩
        refine op_fn F (by kernel_rfl) (same8_any _ mb.r mb.A1 mb.c1 mb.A2 mb.c2 mb.A3 mb.c3 B1 d1 B2 d2 B3 d3 (bag_nodes S 4 (R := [mb]) rfl (m := mb) (by simp) (by (try dsimp only); omega)) (bag_edges S 4 (R := [mb]) rfl (m := mb) (by simp) (by (try dsimp only); omega)) (bag_amts S 4 (R := [mb]) rfl (m := mb) (by simp) (by (try dsimp only); omega)) (bag_nodes S 6 (R := [⟨B1, d1, B2, d2, B3, d3, mb.r⟩]) rfl (m := ⟨B1, d1, B2, d2, B3, d3, mb.r⟩) (by simp) (by (try dsimp only); omega)) (bag_edges S 6 (R := [⟨B1, d1, B2, d2, B3, d3, mb.r⟩]) rfl (m := ⟨B1, d1, B2, d2, B3, d3, mb.r⟩) (by simp) (by (try dsimp only); omega)) (bag_amts S 6 (R := [⟨B1, d1, B2, d2, B3, d3, mb.r⟩]) rfl (m := ⟨B1, d1, B2, d2, B3, d3, mb.r⟩) (by simp) (by (try dsimp only); omega)) o1 o2 o3) ?_
        rintro e z ⟨rfl, hb⟩
        have S := S.grow hb
        exact ⟨_, rfl, (), rfl, (SameB.refl _ _ rfl), S⟩
      trivial
    · rintro ⟨⟩ a z F S
      have F := F.sub (l := [(8, .bool true)]) ⟨by kernel_rfl, trivial⟩
      have S : Sat w z [rest w (· < w.heap.size), box b1 25 [.slice As x.spots.length cs, .slice Ae x.edges.length ce], row 107 2 (.slice A3 x.spots.length c4) x.spots.length (x.spots.flatMap spC), row 62 8 (.slice A5 x.edges.length c6) x.edges.length (x.edges.flatMap edC), bag ([mb].flatMap rtRows), box b7 47 [.slice mb.A1 mb.r.nodes.length mb.c1, .slice mb.A2 mb.r.edges.length mb.c2, .slice mb.A3 mb.r.amts.length mb.c3], bag ([(⟨B1, d1, B2, d2, B3, d3, mb.r⟩ : RtM)].flatMap rtRows), box b8 45 [.slice B1 mb.r.nodes.length d1, .slice B2 mb.r.edges.length d2, .slice B3 mb.r.amts.length d3]] := S
      refine then_n ?_
      refine wp_ret ?_
      exact fin F [.tmp 8] [.bool true] rfl ⟨by kernel_rfl, trivial⟩ (.bool true) rfl ⟨rfl, S.below (i := 0) rfl⟩
end Go.Proofs.Ytcfpbemoocegfaa
