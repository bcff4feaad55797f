/- Walk over a push: as much as can goes over the way that was found. -/
import Derived.Test.YtcfpbemoocegfaaRch
namespace Go.Proofs.Ytcfpbemoocegfaa
set_option linter.unusedVariables false
set_option linter.unusedSimpArgs false
set_option linter.unnecessarySimpa false
open Go Go.RowKit

theorem side_back {e : Edg} (hne : e.a ≠ e.b) {s : Nat} (hs : s < 2) {n : Int} (h : e.endp ((1 - s : Nat) : Int) = n) : sideP e n = ((1 - s : Nat) : Int) := by
  match s, hs with
  | 0, _ =>
    have h : e.b = n := h
    show sideP e n = 1
    unfold sideP; rw [if_neg (fun q => hne (q.trans h.symm)), if_pos h]
  | 1, _ =>
    have h : e.a = n := h
    show sideP e n = 0
    unfold sideP; rw [if_pos h]
theorem hop_le {y : Wb} {g : Hop} {a b : Int} (h : HopOk y g a) (hb : b ≤ a) : HopOk y g b := by
  obtain ⟨f, h1, h2, h3, h4, h5, h6⟩ := h
  exact ⟨f, h1, h2, h3, h4, h5, by omega⟩
theorem back_cons {fr : Int} {v : Int} {L : List Hop} (h : BackTo fr v L) (hne : ¬ v = fr) : ∃ g M, L = g :: M ∧ g.v = v ∧ BackTo fr g.u M := by
  cases L with
  | nil => exact absurd h hne
  | cons g M => exact ⟨g, M, rfl, h.1, h.2.2⟩
theorem back_end {fr : Int} {L : List Hop} (h : BackTo fr fr L) : L = [] := by
  cases L with
  | nil => rfl
  | cons g M => exact absurd rfl h.2.1
theorem Sat.rowOf9 {w0 w : World} {l : List Asn} (S : Sat w0 w l) (i : Nat) {α : Type} {k : Nat} {f : α → List Value} {T : TypeId} {A : Option Addr} {c n : Nat} {X : List α} (hn : n = X.length) (hi : l[i]? = some (row T k (.slice A n c) n (X.flatMap f))) : w.ownsRow 0 T k (.slice A X.length c) X.length (X.flatMap f) := by
  subst hn
  exact S.rowOf hi
theorem reach27_n {n9 : Nat} {y : Wb} (hn : n9 = y.edges.length) (w : World) (As : Option Addr) (cs : Nat) (Ae : Option Addr) (ce : Nat) (x : Wb) (h : WebAt w As cs Ae ce x) (ok : x.Ok) (Ar : Option Addr) (cr : Nat) (y' : Wb) (hy : Recs 2 resC w Ar cr y.edges) (hres : ResOf x y) (hc : chkP x = 0) (fr : Nat) (hfr : fr < x.spots.length) : Calls Try.prog 77 #[.slice Ar n9 cr, .agg #[.slice As x.spots.length cs, .slice Ae x.edges.length ce], .int .i64 (fr : Nat)] w fun e w' => ∃ A' c' by_, e = .returned (.slice A' by_.length c') ∧ RchOk x y fr by_ ∧ Sat w w' [rest w (· < w.heap.size), row 3 1 (.slice A' by_.length c') by_.length (by_.flatMap iC_i64)] := by
  subst hn
  exact reach27_any w As cs Ae ce x h ok Ar cr y hy hres hc fr hfr
theorem hop_at {n : Nat} {by_ : List Int} {L L2 : List Hop} {fr a1 : Nat} (hnode : ∀ g ∈ L, ∃ u q : Nat, g.u = (u : Int) ∧ g.v = (q : Int) ∧ by_[q]? = some (g.i : Int) ∧ q < n ∧ u < n) (hb : BackTo (fr : Int) (a1 : Int) L2) (hne : ¬ (a1 : Int) = (fr : Int)) (hsub : ∀ g ∈ L2, g ∈ L) :
    ∃ (gi gs gu : Nat) (M : List Hop), L2 = (⟨gi, gs, (gu : Int), (a1 : Int)⟩ : Hop) :: M ∧ BackTo (fr : Int) (gu : Int) M ∧ by_[a1]? = some (gi : Int) ∧ a1 < n ∧ gu < n ∧ (⟨gi, gs, (gu : Int), (a1 : Int)⟩ : Hop) ∈ L := by
  obtain ⟨g, M, rfl, hv, hM⟩ := back_cons hb hne
  have hm := hsub g (by simp)
  obtain ⟨u, q, h1, h2, h3, h4, h5⟩ := hnode g hm
  obtain ⟨gi, gs, gu, gv⟩ := g
  dsimp only at hv hM h1 h2 h3
  subst h1
  subst hv
  have : q = a1 := by omega
  subst this
  exact ⟨gi, gs, u, M, rfl, hM, h3, h4, h5, hm⟩
theorem hop_edge {x y : Wb} (hres : ResOf x y) {gi gs gu a1 : Nat} {am : Int} (hok : HopOk y (⟨gi, gs, (gu : Int), (a1 : Int)⟩ : Hop) am) : ∃ ed f, x.edges[gi]? = some ed ∧ y.edges[gi]? = some f ∧ gs < 2 ∧ ed.endp (gs : Int) = (gu : Int) ∧ sideP ed (a1 : Int) = ((1 - gs : Nat) : Int) ∧ am ≤ f.can (gs : Int) ∧ f.c0 + f.c1 = ed.c0 + ed.c1 := by
  obtain ⟨f, hf, hs, hu, hv, hne, hle⟩ := hok
  have hi := (List.getElem?_eq_some_iff.1 hf).1
  have hx : x.edges[gi]? = some (x.edges[gi]'(by rw [← hres.len]; exact hi)) := List.getElem?_eq_getElem _
  obtain ⟨e1, e2, e3⟩ := hres.at_ gi _ f hx hf
  exact ⟨_, f, hx, hf, hs, (endp_ends e1 e2 _).symm.trans hu, side_back (by rw [← e1, ← e2]; exact hne) hs ((endp_ends e1 e2 _).symm.trans hv), hle, e3⟩
theorem can_sum (f : Edg) {s : Nat} (h : s < 2) : f.can (s : Int) + f.can ((1 - s : Nat) : Int) = f.c0 + f.c1 := by
  match s, h with
  | 0, _ => rfl
  | 1, _ => show f.c1 + f.c0 = f.c0 + f.c1; omega
theorem hop_of {y : Wb} {g : Hop} {a : Int} {f : Edg} (h : HopOk y g a) (hf : y.edges[g.i]? = some f) : f.endp (g.s : Int) = g.u ∧ f.endp ((1 - g.s : Nat) : Int) = g.v ∧ f.a ≠ f.b := by
  obtain ⟨f', h1, h2, h3, h4, h5, h6⟩ := h
  rw [hf] at h1; cases h1
  exact ⟨h3, h4, h5⟩
theorem come_not {by_ : List Int} {v : Nat} {b : Int} (h : by_[v]? = some b) (hb : b < 0) : come by_ (v : Int) = false := by
  cases hc : come by_ (v : Int) with
  | false => rfl
  | true =>
    obtain ⟨b', h1, h2⟩ := come_iff.1 hc
    rw [h] at h1; cases h1; omega
set_option maxRecDepth 100000 in
set_option maxHeartbeats 4000000 in
theorem push_any (w : World) (G : Nat → Prop) (As : Option Addr) (cs : Nat) (Ae : Option Addr) (ce : Nat) (x : Wb) (h : WebAt w As cs Ae ce x) (ok : x.Ok) (gs : InG G As (x.spots.flatMap spC)) (ge : InG G Ae (x.edges.flatMap edC)) (Ar : Option Addr) (cr n9 : Nat) (y : Wb) (hn9 : n9 = y.edges.length) (hres : ResOf x y) (hc : chkP x = 0) (hsum : ∀ e ∈ x.edges, e.c0 + e.c1 < 18446744073709551616) (fr to : Nat) (hfr : fr < x.spots.length) (hto : to < x.spots.length) (most : Int) (hmu : U64 most) (hmost : 0 < most) (hS : Sat w w [row 57 2 (.slice Ar n9 cr) n9 (y.edges.flatMap resC), rest w G]) : Calls Try.prog 76 #[.slice Ar n9 cr, .agg #[.slice As x.spots.length cs, .slice Ae x.edges.length ce], .int .i64 (fr : Nat), .int .i64 (to : Nat), .int .u64 most] w fun e w' => ∃ n y', e = .returned (.int .u64 n) ∧ PushOk x y fr to most n y' ∧ Sat w w' [row 57 2 (.slice Ar n9 cr) n9 (y'.edges.flatMap resC), rest w G] := by
 refine enter 108 Try.func76 rfl rfl rfl fun a F => ?_
 obtain ⟨zc1, zc2, _⟩ := chk_zero hc
 have hyl := hres.len
 have S : Sat w w [rest w G, row 57 2 (.slice Ar n9 cr) n9 (y.edges.flatMap resC)] := hS.pick [1, 0] (by decide)
 refine s_reg ?_
 refine l_do F rfl rfl (op_box S _ _ (.agg #[.slice As x.spots.length cs, .slice Ae x.edges.length ce]) F rfl (by kernel_rfl) fun b1 z S a F => ?_)
 refine l_pure 1 (fun L => (10, .int .u64 0) :: L) F (by kernel_rfl) fun a F => ?_
 refine l_then ?_
 refine s_reg ?_
 refine l_pure 1 (fun L => (19, .slice Ar n9 cr) :: L) F (by kernel_rfl) fun a F => ?_
 refine l_do F rfl rfl (op_loadK _ _ (some ⟨b1, 0, none⟩) 0 [.slice As x.spots.length cs, .slice Ae x.edges.length ce] F rfl (by kernel_rfl) (by kernel_rfl) (by kernel_rfl) (by simp) (cBoxK S 2 rfl 0 (by kernel_rfl)) (fun a F => ?_))
 refine l_pure 1 (fun L => (21, .int .i64 (fr : Nat)) :: L) F (by kernel_rfl) fun a F => ?_
 refine l_do F rfl rfl (op_fn F (by kernel_rfl) (reach27_n hn9 _ As cs Ae ce x ⟨h.s.mono (src_rest S (i := 0) rfl h.s.src gs), h.e.mono (src_rest S (i := 0) rfl h.e.src ge)⟩ ok Ar cr y (Recs.ofRow (S.rowOf9 1 hn9 rfl) (by omega)) hres hc fr hfr) ?_)
 rintro e z ⟨A2, c3, by_, rfl, hrch, g⟩
 have S := S.pushThings g
 have hbyl := hrch.len
 obtain ⟨bto, hbto⟩ : ∃ bto, by_[to]? = some bto := ⟨_, List.getElem?_eq_getElem (by omega)⟩
 refine ⟨_, rfl, ?_⟩
 intro a F
 refine l_pure 1 (fun L => (11, .slice A2 by_.length c3) :: L) F (by kernel_rfl) fun a F => ?_
 refine l_then ?_
 refine wp_seq ?_
 refine s_reg ?_
 refine l_pure 2 (fun L => (24, .int .i64 (to : Nat)) :: (23, .slice A2 by_.length c3) :: L) F (by kernel_rfl) fun a F => ?_
 refine l_do F rfl rfl (op_index _ 3 _ _ A2 by_.length c3 to 1 .i64 F rfl (by kernel_rfl) (by kernel_rfl) (by kernel_rfl) (by kernel_rfl) (by omega) (row_some S 3 rfl (m := to) (by omega)) (fun a F => ?_))
 refine l_do F rfl rfl (op_load _ _ A2 (to * 1) (.int .i64 bto) F rfl (by kernel_rfl) (by kernel_rfl) (cRec S 3 iC_len_i64 rfl 0 hbto rfl) (fun a F => ?_))
 by_cases ht4 : (bto : Int) < (0 : Int)
 ·
  skip
  refine l_do F rfl rfl (op_pure F (v0 := .bool (decide ((bto : Int) < (0 : Int)))) (v := .bool true) (by kernel_rfl) (lssT ht4) fun a F => ?_)
  refine l_then ?_
  refine c_t F rfl ?_
  refine s_reg ?_
  refine l_pure 1 (fun L => (10, .int .u64 0) :: L) F (by kernel_rfl) fun a F => ?_
  refine l_then ?_
  refine wp_ret ?_
  refine then_r (?_)
  exact fin F [.tmp 10] [.int .u64 0] rfl ⟨by kernel_rfl, trivial⟩ (.int .u64 0) rfl ⟨0, y, rfl, .inl ⟨rfl, rfl, by_, hrch, come_not hbto (by omega)⟩, S.pick [1, 0] (by decide)⟩
 ·
  skip
  obtain ⟨L, hL1, hL2, hL3, hnode⟩ := hrch.way (fun i f hf => ends_ne hc hres hf) (v := to) (come_iff.2 ⟨bto, hbto, by omega⟩)
  refine l_do F rfl rfl (op_pure F (v0 := .bool (decide ((bto : Int) < (0 : Int)))) (v := .bool false) (by kernel_rfl) (lssF ht4) fun a F => ?_)
  refine l_then ?_
  refine c_f F rfl ?_
  refine wp_skip ?_
  refine then_n ?_
  refine s_reg ?_
  refine l_pure 2 (fun L => (12, .int .u64 most) :: (28, .int .u64 most) :: L) F (by kernel_rfl) fun a F => ?_
  refine l_then ?_
  refine wp_seq ?_
  refine s_reg ?_
  refine l_pure 2 (fun L => (13, .int .i64 (to : Nat)) :: (29, .int .i64 (to : Nat)) :: L) F (by kernel_rfl) fun a F => ?_
  refine l_then ?_
  refine wp_block ?_
  refine wp_loop_m (fun m a z => ∃ (a1 : Nat) (am : Int) (L2 : List Hop), m = L2.length ∧ (0 < am) ∧ (am ≤ most) ∧ (am < 18446744073709551616) ∧ (BackTo (fr : Int) (a1 : Int) L2) ∧ (∀ g ∈ L2, g ∈ L) ∧ (∀ g ∈ L, g ∈ L2 ∨ HopOk y g am) ∧ Fr a 108 [(0, .slice Ar n9 cr), (2, .int .i64 (fr : Nat)), (3, .int .i64 (to : Nat)), (6, .pointer (some ⟨b1, 0, none⟩)), (11, .slice A2 by_.length c3), (12, .int .u64 am), (13, .int .i64 (a1 : Nat))] ∧ Sat w z [rest w G, row 57 2 (.slice Ar n9 cr) n9 (y.edges.flatMap resC), box b1 32 [.slice As x.spots.length cs, .slice Ae x.edges.length ce], row 3 1 (.slice A2 by_.length c3) by_.length (by_.flatMap iC_i64)]) _ ⟨to, most, L, rfl, hmost, (Int.le_refl _), (by have := hmu.2; exact this), hL1, (fun g hg => hg), (fun g hg => .inl hg), F.sub ⟨by kernel_rfl, by kernel_rfl, by kernel_rfl, by kernel_rfl, by kernel_rfl, by kernel_rfl, by kernel_rfl, trivial⟩, S⟩ ?_
  rintro m a z ⟨a1, am, L2, hm, hf5, hf6, hf7, hf8, hf9, hf10, F, S⟩
  have hback := hf8
  have hsubL := hf9
  have hall := hf10
  refine wp_seq ?_
  refine s_reg ?_
  refine l_pure 2 (fun L => (31, .int .i64 (fr : Nat)) :: (30, .int .i64 (a1 : Nat)) :: L) F (by kernel_rfl) fun a F => ?_
  by_cases ht11 : ((a1 : Nat) : Int) = ((fr : Nat) : Int)
  ·
   skip
   have hend : L2 = [] := back_end (by have h9 := hback; rw [ht11] at h9; exact h9)
   refine l_do F rfl rfl (op_pure F (v0 := .bool (((a1 : Nat) : Int) != ((fr : Nat) : Int))) (v := .bool false) (by kernel_rfl) (neqF ht11) fun a F => ?_)
   refine l_then ?_
   refine c_f F rfl ?_
   refine wp_exit ?_
   refine then_x ?_
   refine then_x ?_
   refine inb_x ?_
   refine then_n ?_
   refine wp_seq ?_
   refine s_reg ?_
   refine l_pure 2 (fun L => (16, .int .i64 (to : Nat)) :: (60, .int .i64 (to : Nat)) :: L) F (by kernel_rfl) fun a F => ?_
   refine l_then ?_
   refine wp_block ?_
   have hokL : ∀ g ∈ L, HopOk y g am := fun g hg => by
     rcases hall g hg with h9 | h9
     · rw [hend] at h9; simp at h9
     · exact h9
   have ham0 : 0 < am := by omega
   have ham1 : am ≤ most := by omega
   have ham2 : am < 18446744073709551616 := by omega
   clear hback hsubL hall hend
   refine wp_loop_m (fun m a z => ∃ (a1 : Nat) (y2 : Wb) (L2 : List Hop), m = L2.length ∧ (BackTo (fr : Int) (a1 : Int) L2) ∧ (∀ g ∈ L2, g ∈ L) ∧ ((L2.map Hop.i).Nodup) ∧ (pushL y2 am L2 = pushL y am L) ∧ (ResOf x y2) ∧ (∀ g ∈ L2, HopOk y2 g am) ∧ Fr a 108 [(0, .slice Ar n9 cr), (2, .int .i64 (fr : Nat)), (6, .pointer (some ⟨b1, 0, none⟩)), (11, .slice A2 by_.length c3), (12, .int .u64 am), (16, .int .i64 (a1 : Nat))] ∧ Sat w z [rest w G, row 57 2 (.slice Ar n9 cr) n9 (y2.edges.flatMap resC), box b1 32 [.slice As x.spots.length cs, .slice Ae x.edges.length ce], row 3 1 (.slice A2 by_.length c3) by_.length (by_.flatMap iC_i64)]) _ ⟨to, y, L, rfl, hL1, (fun g hg => hg), hL3, rfl, hres, hokL, F.sub ⟨by kernel_rfl, by kernel_rfl, by kernel_rfl, by kernel_rfl, by kernel_rfl, by kernel_rfl, trivial⟩, S⟩ ?_
   rintro m a z ⟨a1, y2, L2, hm, hf12, hf13, hf14, hf15, hf16, hf17, F, S⟩
   have hback := hf12
   have hsubL := hf13
   have hnd2 := hf14
   have hpush := hf15
   have hres2 := hf16
   have hok2 := hf17
   refine wp_seq ?_
   refine s_reg ?_
   refine l_pure 2 (fun L => (62, .int .i64 (fr : Nat)) :: (61, .int .i64 (a1 : Nat)) :: L) F (by kernel_rfl) fun a F => ?_
   by_cases ht18 : ((a1 : Nat) : Int) = ((fr : Nat) : Int)
   ·
    skip
    have hend : L2 = [] := back_end (by have h9 := hback; rw [ht18] at h9; exact h9)
    refine l_do F rfl rfl (op_pure F (v0 := .bool (((a1 : Nat) : Int) != ((fr : Nat) : Int))) (v := .bool false) (by kernel_rfl) (neqF ht18) fun a F => ?_)
    refine l_then ?_
    refine c_f F rfl ?_
    refine wp_exit ?_
    refine then_x ?_
    refine then_x ?_
    refine inb_x ?_
    refine then_n ?_
    refine s_reg ?_
    refine l_pure 2 (fun L => (10, .int .u64 am) :: (107, .int .u64 am) :: L) F (by kernel_rfl) fun a F => ?_
    refine l_then ?_
    refine wp_ret ?_
    exact fin F [.tmp 10] [.int .u64 am] rfl ⟨by kernel_rfl, trivial⟩ (.int .u64 am) rfl ⟨am, y2, rfl, .inr ⟨ham0, ham1, L, by rw [← hpush, hend]; rfl, hL1, hokL, hL3⟩, S.pick [1, 0] (by decide)⟩
   ·
    skip
    obtain ⟨gi, gs, gu, M, hLM, hbM, hby, hal, hgul, hgL⟩ := hop_at hnode hback ht18 hsubL
    obtain ⟨ed, f, hed, hf, hs2, heu, hsd, hcan, hsm⟩ := hop_edge hres2 (hok2 (⟨gi, gs, (gu : Int), (a1 : Int)⟩ : Hop) (by rw [hLM]; simp))
    have hgi := (List.getElem?_eq_some_iff.1 hf).1
    have hlen2 := hres2.len
    have hfo := hres2.ok.e f (List.mem_of_getElem? hf)
    have hcs := can_sum f hs2
    have hsum9 := hsum ed (List.mem_of_getElem? hed)
    have hq0 : 0 ≤ f.can (gs : Int) := by unfold Edg.can; split; exact hfo.c0.1; exact hfo.c1.1
    have hq1 : 0 ≤ f.can ((1 - gs : Nat) : Int) := by unfold Edg.can; split; exact hfo.c0.1; exact hfo.c1.1
    have hso := setc_other f hs2 (f.can (gs : Int) - am)
    refine l_do F rfl rfl (op_pure F (v0 := .bool (((a1 : Nat) : Int) != ((fr : Nat) : Int))) (v := .bool true) (by kernel_rfl) (neqT ht18) fun a F => ?_)
    refine l_then ?_
    refine c_t F rfl ?_
    refine wp_skip ?_
    refine then_n ?_
    refine wp_block ?_
    refine wp_seq ?_
    have S := S.pushEmp
    refine region_gx (fun D => fun (b19 : Nat) => [rest w G, row 57 2 (.slice Ar n9 cr) n9 (y2.edges.flatMap resC), box b1 32 [.slice As x.spots.length cs, .slice Ae x.edges.length ce], row 3 1 (.slice A2 by_.length c3) by_.length (by_.flatMap iC_i64), bif D 9 then box b19 62 [.int .i64 ed.a, .int .i64 ed.b, .int .u64 ed.c0, .int .u64 ed.c1, .int .u64 ed.b0, .int .u64 ed.r0, .int .u64 ed.b1, .int .u64 ed.r1] else (bif D 8 then box b19 62 [.int .i64 0, .int .i64 0, .int .u64 0, .int .u64 0, .int .u64 0, .int .u64 0, .int .u64 0, .int .u64 0] else emp)]) (fun (b19 : Nat) => [.pointer (some ⟨b1, 1, none⟩), .slice Ae x.edges.length ce, .slice A2 by_.length c3, .int .i64 (a1 : Nat), ptrA A2 (a1 * 1), .int .i64 (gi : Nat), ptrA Ae (gi * 8), .agg #[.int .i64 ed.a, .int .i64 ed.b, .int .u64 ed.c0, .int .u64 ed.c1, .int .u64 ed.b0, .int .u64 ed.r0, .int .u64 ed.b1, .int .u64 ed.r1], .pointer (some ⟨b19, 0, none⟩), undef]) [(1, [], [6, 7, 9]), (4, [], [5, 6, 7, 9]), (5, [4], [6, 7, 9]), (6, [1, 4, 5], [7, 9]), (7, [1, 4, 5, 6], [9]), (8, [], [9]), (9, [1, 4, 5, 6, 7, 8], [])] 0 rfl (by kernel_rfl) (by kernel_rfl) F S.drew ?_ ?_ ?_ ?_ ?_
    · rintro b19; rfl
    · rintro b19; kernel_rfl
    ·
     intro D D' x h
     obtain b19 := x
     simp only [h 8 (by decide), h 9 (by decide)]
    ·
     refine ⟨?_, ?_⟩
     ·
      refine ⟨_, rfl, rfl, by kernel_rfl, ?_⟩
      rintro D b19 a z S F
      refine ⟨by kernel_rfl, ?_⟩
      exact op_load _ _ (some ⟨b1, 0, none⟩) 1 (.slice Ae x.edges.length ce) F rfl (by kernel_rfl) (by kernel_rfl) (cBox S 2 rfl (j := 1) rfl) (⟨b19, rfl, (SameB.refl _ _ rfl), S⟩)
     refine ⟨?_, ?_⟩
     ·
      refine ⟨_, rfl, rfl, by kernel_rfl, ?_⟩
      rintro D b19 a z S F
      refine ⟨by kernel_rfl, ?_⟩
      exact op_index _ 3 _ _ A2 by_.length c3 a1 1 .i64 F rfl (by kernel_rfl) (by kernel_rfl) (by kernel_rfl) (by kernel_rfl) (get_lt hby) (row_some S 3 rfl (m := a1) (get_lt hby)) (⟨b19, rfl, (SameB.refl _ _ rfl), S⟩)
     refine ⟨?_, ?_⟩
     ·
      refine ⟨_, rfl, rfl, by kernel_rfl, ?_⟩
      rintro D b19 a z S F
      refine ⟨by kernel_rfl, ?_⟩
      exact op_load _ _ A2 (a1 * 1) (.int .i64 (gi : Nat)) F rfl (by kernel_rfl) (by kernel_rfl) (cRec S 3 iC_len_i64 rfl 0 hby rfl) (⟨b19, rfl, (SameB.refl _ _ rfl), S⟩)
     refine ⟨?_, ?_⟩
     ·
      refine ⟨_, rfl, rfl, by kernel_rfl, ?_⟩
      rintro D b19 a z S F
      refine ⟨by kernel_rfl, ?_⟩
      exact op_index _ 62 _ _ Ae x.edges.length ce gi 8 .i64 F rfl (by kernel_rfl) (by kernel_rfl) (by kernel_rfl) (by kernel_rfl) (get_lt hed) (recs_some h.e (m := gi) (get_lt hed)) (⟨b19, rfl, (SameB.refl _ _ rfl), S⟩)
     refine ⟨?_, ?_⟩
     ·
      refine ⟨_, rfl, rfl, by kernel_rfl, ?_⟩
      rintro D b19 a z S F
      refine ⟨by kernel_rfl, ?_⟩
      exact op_loadK _ _ Ae (gi * 8) [.int .i64 ed.a, .int .i64 ed.b, .int .u64 ed.c0, .int .u64 ed.c1, .int .u64 ed.b0, .int .u64 ed.r0, .int .u64 ed.b1, .int .u64 ed.r1] F rfl (by kernel_rfl) (by kernel_rfl) (by kernel_rfl) (by simp) (cReadK0 edC_len (h.e.mono (src_rest S (i := 0) rfl h.e.src ge)) hed (by kernel_rfl)) (⟨b19, rfl, (SameB.refl _ _ rfl), S⟩)
     refine ⟨?_, ?_⟩
     ·
      refine ⟨_, rfl, rfl, by kernel_rfl, ?_⟩
      rintro D b19 a z S F
      refine ⟨by kernel_rfl, ?_⟩
      exact op_allocF S 4 rfl _ (.agg #[.int .i64 0, .int .i64 0, .int .u64 0, .int .u64 0, .int .u64 0, .int .u64 0, .int .u64 0, .int .u64 0]) rfl (by kernel_rfl) fun y20 z S => ⟨y20, rfl, ⟨rfl, rfl, rfl, rfl, rfl, rfl, rfl, rfl, trivial, trivial, trivial⟩, S⟩
     refine ⟨?_, ?_⟩
     ·
      refine ⟨_, rfl, rfl, by kernel_rfl, ?_⟩
      rintro D b19 a z S F
      refine ⟨by kernel_rfl, ?_⟩
      exact op_storeB S 4 _ _ _ b19 0 (.agg #[.int .i64 ed.a, .int .i64 ed.b, .int .u64 ed.c0, .int .u64 ed.c1, .int .u64 ed.b0, .int .u64 ed.r0, .int .u64 ed.b1, .int .u64 ed.r1]) F rfl rfl (by kernel_rfl) (by kernel_rfl) (by kernel_rfl) (by kernel_rfl) (by kernel_rfl) fun z S => ⟨b19, rfl, (SameB.refl _ _ rfl), S⟩
     trivial
    ·
     rintro b19 a z F S
     have F := F.sub (l := [(0, .slice Ar n9 cr), (2, .int .i64 (fr : Nat)), (6, .pointer (some ⟨b1, 0, none⟩)), (11, .slice A2 by_.length c3), (12, .int .u64 am), (16, .int .i64 (a1 : Nat)), (17, .pointer (some ⟨b19, 0, none⟩))]) ⟨by kernel_rfl, by kernel_rfl, by kernel_rfl, by kernel_rfl, by kernel_rfl, by kernel_rfl, by kernel_rfl, trivial⟩
     have S : Sat w z [rest w G, row 57 2 (.slice Ar n9 cr) n9 (y2.edges.flatMap resC), box b1 32 [.slice As x.spots.length cs, .slice Ae x.edges.length ce], row 3 1 (.slice A2 by_.length c3) by_.length (by_.flatMap iC_i64), box b19 62 [.int .i64 ed.a, .int .i64 ed.b, .int .u64 ed.c0, .int .u64 ed.c1, .int .u64 ed.b0, .int .u64 ed.r0, .int .u64 ed.b1, .int .u64 ed.r1]] := S
     refine then_n ?_
     refine s_reg ?_
     refine l_do F rfl rfl (op_loadK _ _ (some ⟨b19, 0, none⟩) 0 [.int .i64 ed.a, .int .i64 ed.b, .int .u64 ed.c0, .int .u64 ed.c1, .int .u64 ed.b0, .int .u64 ed.r0, .int .u64 ed.b1, .int .u64 ed.r1] F rfl (by kernel_rfl) (by kernel_rfl) (by kernel_rfl) (by simp) (cBoxK S 4 rfl 0 (by kernel_rfl)) (fun a F => ?_))
     refine l_pure 1 (fun L => (73, .int .i64 (a1 : Nat)) :: L) F (by kernel_rfl) fun a F => ?_
     refine l_do F rfl rfl (op_fn F (by kernel_rfl) (side_at hsd _) ?_)
     rintro e z ⟨rfl, hb⟩
     have S := S.grow hb
     refine ⟨_, rfl, ?_⟩
     intro a F
     refine l_do F rfl rfl (op_pure F (v0 := .int .i64 (IntKind.wrap .i64 (1 - (1 - gs : Nat)))) (v := .int .i64 (gs : Nat)) (by kernel_rfl) (wrn_i64 (by omega) (by omega) (by omega)) fun a F => ?_)
     refine l_pure 1 (fun L => (18, .int .i64 (gs : Nat)) :: L) F (by kernel_rfl) fun a F => ?_
     refine l_then ?_
     refine wp_seq ?_
     refine region_gx (fun D => fun (_ : Unit) => [rest w G, bif D 13 then row 57 2 (.slice Ar n9 cr) n9 ((y2.edges.set gi (f.setc gs ((f.can (gs : Nat)) - am))).flatMap resC) else row 57 2 (.slice Ar n9 cr) n9 (y2.edges.flatMap resC), box b1 32 [.slice As x.spots.length cs, .slice Ae x.edges.length ce], row 3 1 (.slice A2 by_.length c3) by_.length (by_.flatMap iC_i64), box b19 62 [.int .i64 ed.a, .int .i64 ed.b, .int .u64 ed.c0, .int .u64 ed.c1, .int .u64 ed.b0, .int .u64 ed.r0, .int .u64 ed.b1, .int .u64 ed.r1]]) (fun (_ : Unit) => [.slice Ar n9 cr, .slice A2 by_.length c3, .int .i64 (a1 : Nat), ptrA A2 (a1 * 1), .int .i64 (gi : Nat), .int .i64 (gs : Nat), ptrA Ar (gi * 2), ptrA Ar (gi * 2 + gs * 1), .int .u64 (f.can (gs : Nat)), .int .u64 am, .int .u64 ((f.can (gs : Nat)) - am), ptrA Ar (gi * 2), ptrA Ar (gi * 2 + gs * 1), undef]) [(3, [], [4, 6, 7, 8, 10, 11, 12, 13]), (4, [3], [6, 7, 8, 10, 11, 12, 13]), (6, [3, 4], [7, 8, 10, 12, 13]), (7, [3, 4, 6], [8, 10, 12, 13]), (8, [3, 4, 6, 7], [10, 12, 13]), (10, [3, 4, 6, 7, 8], [12, 13]), (11, [3, 4], [12, 13]), (12, [3, 4, 6, 7, 8, 10, 11], [13]), (13, [3, 4, 6, 7, 8, 10, 11, 12], [])] () rfl (by kernel_rfl) (by kernel_rfl) F S.drew ?_ ?_ ?_ ?_ ?_
     · rintro ⟨⟩; rfl
     · rintro ⟨⟩; kernel_rfl
     ·
      intro D D' x h
      cases x
      simp only [h 13 (by decide)]
     ·
      refine ⟨?_, ?_⟩
      ·
       refine ⟨_, rfl, rfl, by kernel_rfl, ?_⟩
       rintro D ⟨⟩ a z S F
       refine ⟨by kernel_rfl, ?_⟩
       exact op_index _ 3 _ _ A2 by_.length c3 a1 1 .i64 F rfl (by kernel_rfl) (by kernel_rfl) (by kernel_rfl) (by kernel_rfl) (get_lt hby) (row_some S 3 rfl (m := a1) (get_lt hby)) (⟨(), rfl, (SameB.refl _ _ rfl), S⟩)
      refine ⟨?_, ?_⟩
      ·
       refine ⟨_, rfl, rfl, by kernel_rfl, ?_⟩
       rintro D ⟨⟩ a z S F
       refine ⟨by kernel_rfl, ?_⟩
       exact op_load _ _ A2 (a1 * 1) (.int .i64 (gi : Nat)) F rfl (by kernel_rfl) (by kernel_rfl) (cRec S 3 iC_len_i64 rfl 0 hby rfl) (⟨(), rfl, (SameB.refl _ _ rfl), S⟩)
      refine ⟨?_, ?_⟩
      ·
       refine ⟨_, rfl, rfl, by kernel_rfl, ?_⟩
       rintro D ⟨⟩ a z S F
       refine ⟨by kernel_rfl, ?_⟩
       exact op_index _ 57 _ _ Ar n9 cr gi 2 .i64 F rfl (by kernel_rfl) (by kernel_rfl) (by kernel_rfl) (by kernel_rfl) (by have h9 := get_lt hf; (try simp only [List.length_set] at h9); omega) (row_some S 1 rfl (m := gi) (by have h9 := get_lt hf; (try simp only [List.length_set] at h9); omega)) (⟨(), rfl, (SameB.refl _ _ rfl), S⟩)
      refine ⟨?_, ?_⟩
      ·
       refine ⟨_, rfl, rfl, by kernel_rfl, ?_⟩
       rintro D ⟨⟩ a z S F
       refine ⟨by kernel_rfl, ?_⟩
       exact op_indexArr _ 26 _ _ Ar (gi * 2) 2 gs 1 .i64 F rfl (by kernel_rfl) (by kernel_rfl) (by kernel_rfl) (by kernel_rfl) (by omega) (row_some S 1 rfl (m := gi) (by have h9 := get_lt hf; (try simp only [List.length_set] at h9); omega)) (⟨(), rfl, (SameB.refl _ _ rfl), S⟩)
      refine ⟨?_, ?_⟩
      ·
       refine ⟨_, rfl, rfl, by kernel_rfl, ?_⟩
       rintro D ⟨⟩ a z S F
       refine ⟨by kernel_rfl, ?_⟩
       exact op_load _ _ Ar (gi * 2 + gs * 1) (.int .u64 (f.can (gs : Nat))) F rfl (by kernel_rfl) (by kernel_rfl) (cell_off (cRec S 1 resC_len rfl (0 + gs * 1) hf (resC_can f (m := gs) (by omega))) (by omega)) (⟨(), rfl, (SameB.refl _ _ rfl), S⟩)
      refine ⟨?_, ?_⟩
      ·
       refine ⟨_, rfl, rfl, by kernel_rfl, ?_⟩
       rintro D ⟨⟩ a z S F
       refine ⟨by kernel_rfl, ?_⟩
       exact op_pure F (v0 := .int .u64 (IntKind.wrap .u64 ((f.can (gs : Nat)) - am))) (v := .int .u64 ((f.can (gs : Nat)) - am)) (by kernel_rfl) (wr_u64 (by omega) (by omega)) ⟨(), rfl, (SameB.refl _ _ rfl), S⟩
      refine ⟨?_, ?_⟩
      ·
       refine ⟨_, rfl, rfl, by kernel_rfl, ?_⟩
       rintro D ⟨⟩ a z S F
       refine ⟨by kernel_rfl, ?_⟩
       exact op_index _ 57 _ _ Ar n9 cr gi 2 .i64 F rfl (by kernel_rfl) (by kernel_rfl) (by kernel_rfl) (by kernel_rfl) (by have h9 := get_lt hf; (try simp only [List.length_set] at h9); omega) (row_some S 1 rfl (m := gi) (by have h9 := get_lt hf; (try simp only [List.length_set] at h9); omega)) (⟨(), rfl, (SameB.refl _ _ rfl), S⟩)
      refine ⟨?_, ?_⟩
      ·
       refine ⟨_, rfl, rfl, by kernel_rfl, ?_⟩
       rintro D ⟨⟩ a z S F
       refine ⟨by kernel_rfl, ?_⟩
       exact op_indexArr _ 26 _ _ Ar (gi * 2) 2 gs 1 .i64 F rfl (by kernel_rfl) (by kernel_rfl) (by kernel_rfl) (by kernel_rfl) (by omega) (row_some S 1 rfl (m := gi) (by have h9 := get_lt hf; (try simp only [List.length_set] at h9); omega)) (⟨(), rfl, (SameB.refl _ _ rfl), S⟩)
      refine ⟨?_, ?_⟩
      ·
       refine ⟨_, rfl, rfl, by kernel_rfl, ?_⟩
       rintro D ⟨⟩ a z S F
       refine ⟨by kernel_rfl, ?_⟩
       exact op_storeEnd S 1 _ _ _ Ar gi gs (gi * 2 + gs * 1) ((f.can (gs : Nat)) - am) F hf rfl rfl (by kernel_rfl) (by omega) (by kernel_rfl) (by kernel_rfl) (by omega) fun z S => ⟨(), rfl, (SameB.refl _ _ rfl), S⟩
      trivial
     ·
      rintro ⟨⟩ a z F S
      have F := F.sub (l := [(0, .slice Ar n9 cr), (2, .int .i64 (fr : Nat)), (6, .pointer (some ⟨b1, 0, none⟩)), (11, .slice A2 by_.length c3), (12, .int .u64 am), (16, .int .i64 (a1 : Nat)), (17, .pointer (some ⟨b19, 0, none⟩)), (18, .int .i64 (gs : Nat))]) ⟨by kernel_rfl, by kernel_rfl, by kernel_rfl, by kernel_rfl, by kernel_rfl, by kernel_rfl, by kernel_rfl, by kernel_rfl, trivial⟩
      have S : Sat w z [rest w G, row 57 2 (.slice Ar n9 cr) n9 ((y2.edges.set gi (f.setc gs ((f.can (gs : Nat)) - am))).flatMap resC), box b1 32 [.slice As x.spots.length cs, .slice Ae x.edges.length ce], row 3 1 (.slice A2 by_.length c3) by_.length (by_.flatMap iC_i64), box b19 62 [.int .i64 ed.a, .int .i64 ed.b, .int .u64 ed.c0, .int .u64 ed.c1, .int .u64 ed.b0, .int .u64 ed.r0, .int .u64 ed.b1, .int .u64 ed.r1]] := S
      refine then_n ?_
      refine wp_seq ?_
      refine region_gx (fun D => fun (_ : Unit) => [rest w G, bif D 14 then row 57 2 (.slice Ar n9 cr) n9 (((y2.edges.set gi (f.setc gs ((f.can (gs : Nat)) - am))).set gi ((f.setc gs ((f.can (gs : Nat)) - am)).setc (1 - gs) ((f.can (1 - gs : Nat)) + am))).flatMap resC) else row 57 2 (.slice Ar n9 cr) n9 ((y2.edges.set gi (f.setc gs ((f.can (gs : Nat)) - am))).flatMap resC), box b1 32 [.slice As x.spots.length cs, .slice Ae x.edges.length ce], row 3 1 (.slice A2 by_.length c3) by_.length (by_.flatMap iC_i64), box b19 62 [.int .i64 ed.a, .int .i64 ed.b, .int .u64 ed.c0, .int .u64 ed.c1, .int .u64 ed.b0, .int .u64 ed.r0, .int .u64 ed.b1, .int .u64 ed.r1]]) (fun (_ : Unit) => [.slice Ar n9 cr, .slice A2 by_.length c3, .int .i64 (a1 : Nat), ptrA A2 (a1 * 1), .int .i64 (gi : Nat), .int .i64 (gs : Nat), .int .i64 (1 - gs : Nat), ptrA Ar (gi * 2), ptrA Ar (gi * 2 + (1 - gs) * 1), .int .u64 (f.can (1 - gs : Nat)), .int .u64 am, .int .u64 ((f.can (1 - gs : Nat)) + am), ptrA Ar (gi * 2), ptrA Ar (gi * 2 + (1 - gs) * 1), undef]) [(3, [], [4, 7, 8, 9, 11, 12, 13, 14]), (4, [3], [7, 8, 9, 11, 12, 13, 14]), (6, [], [8, 9, 11, 13, 14]), (7, [3, 4], [8, 9, 11, 13, 14]), (8, [3, 4, 6, 7], [9, 11, 13, 14]), (9, [3, 4, 6, 7, 8], [11, 13, 14]), (11, [3, 4, 6, 7, 8, 9], [13, 14]), (12, [3, 4], [13, 14]), (13, [3, 4, 6, 7, 8, 9, 11, 12], [14]), (14, [3, 4, 6, 7, 8, 9, 11, 12, 13], [])] () rfl (by kernel_rfl) (by kernel_rfl) F S.drew ?_ ?_ ?_ ?_ ?_
      · rintro ⟨⟩; rfl
      · rintro ⟨⟩; kernel_rfl
      ·
       intro D D' x h
       cases x
       simp only [h 14 (by decide)]
      ·
       refine ⟨?_, ?_⟩
       ·
        refine ⟨_, rfl, rfl, by kernel_rfl, ?_⟩
        rintro D ⟨⟩ a z S F
        refine ⟨by kernel_rfl, ?_⟩
        exact op_index _ 3 _ _ A2 by_.length c3 a1 1 .i64 F rfl (by kernel_rfl) (by kernel_rfl) (by kernel_rfl) (by kernel_rfl) (get_lt hby) (row_some S 3 rfl (m := a1) (get_lt hby)) (⟨(), rfl, (SameB.refl _ _ rfl), S⟩)
       refine ⟨?_, ?_⟩
       ·
        refine ⟨_, rfl, rfl, by kernel_rfl, ?_⟩
        rintro D ⟨⟩ a z S F
        refine ⟨by kernel_rfl, ?_⟩
        exact op_load _ _ A2 (a1 * 1) (.int .i64 (gi : Nat)) F rfl (by kernel_rfl) (by kernel_rfl) (cRec S 3 iC_len_i64 rfl 0 hby rfl) (⟨(), rfl, (SameB.refl _ _ rfl), S⟩)
       refine ⟨?_, ?_⟩
       ·
        refine ⟨_, rfl, rfl, by kernel_rfl, ?_⟩
        rintro D ⟨⟩ a z S F
        refine ⟨by kernel_rfl, ?_⟩
        exact op_pure F (v0 := .int .i64 (IntKind.wrap .i64 (1 - (gs : Nat)))) (v := .int .i64 (1 - gs : Nat)) (by kernel_rfl) (wrn_i64 (by omega) (by omega) (by omega)) ⟨(), rfl, (SameB.refl _ _ rfl), S⟩
       refine ⟨?_, ?_⟩
       ·
        refine ⟨_, rfl, rfl, by kernel_rfl, ?_⟩
        rintro D ⟨⟩ a z S F
        refine ⟨by kernel_rfl, ?_⟩
        exact op_index _ 57 _ _ Ar n9 cr gi 2 .i64 F rfl (by kernel_rfl) (by kernel_rfl) (by kernel_rfl) (by kernel_rfl) (by have h9 := get_lt (set_at (y := (f.setc gs ((f.can (gs : Nat)) - am))) hf); (try simp only [List.length_set] at h9); omega) (row_some S 1 rfl (m := gi) (by have h9 := get_lt (set_at (y := (f.setc gs ((f.can (gs : Nat)) - am))) hf); (try simp only [List.length_set] at h9); omega)) (⟨(), rfl, (SameB.refl _ _ rfl), S⟩)
       refine ⟨?_, ?_⟩
       ·
        refine ⟨_, rfl, rfl, by kernel_rfl, ?_⟩
        rintro D ⟨⟩ a z S F
        refine ⟨by kernel_rfl, ?_⟩
        exact op_indexArr _ 26 _ _ Ar (gi * 2) 2 (1 - gs) 1 .i64 F rfl (by kernel_rfl) (by kernel_rfl) (by kernel_rfl) (by kernel_rfl) (by omega) (row_some S 1 rfl (m := gi) (by have h9 := get_lt (set_at (y := (f.setc gs ((f.can (gs : Nat)) - am))) hf); (try simp only [List.length_set] at h9); omega)) (⟨(), rfl, (SameB.refl _ _ rfl), S⟩)
       refine ⟨?_, ?_⟩
       ·
        refine ⟨_, rfl, rfl, by kernel_rfl, ?_⟩
        rintro D ⟨⟩ a z S F
        refine ⟨by kernel_rfl, ?_⟩
        exact op_load _ _ Ar (gi * 2 + (1 - gs) * 1) (.int .u64 (f.can (1 - gs : Nat))) F rfl (by kernel_rfl) (by kernel_rfl) (cell_off (cRec S 1 resC_len rfl (0 + (1 - gs) * 1) (set_at (y := (f.setc gs ((f.can (gs : Nat)) - am))) hf) (by rw [← hso]; exact (resC_can (f.setc gs ((f.can (gs : Nat)) - am)) (m := 1 - gs) (by omega)))) (by omega)) (⟨(), rfl, (SameB.refl _ _ rfl), S⟩)
       refine ⟨?_, ?_⟩
       ·
        refine ⟨_, rfl, rfl, by kernel_rfl, ?_⟩
        rintro D ⟨⟩ a z S F
        refine ⟨by kernel_rfl, ?_⟩
        exact op_pure F (v0 := .int .u64 (IntKind.wrap .u64 ((f.can (1 - gs : Nat)) + am))) (v := .int .u64 ((f.can (1 - gs : Nat)) + am)) (by kernel_rfl) (wr_u64 (by omega) (by omega)) ⟨(), rfl, (SameB.refl _ _ rfl), S⟩
       refine ⟨?_, ?_⟩
       ·
        refine ⟨_, rfl, rfl, by kernel_rfl, ?_⟩
        rintro D ⟨⟩ a z S F
        refine ⟨by kernel_rfl, ?_⟩
        exact op_index _ 57 _ _ Ar n9 cr gi 2 .i64 F rfl (by kernel_rfl) (by kernel_rfl) (by kernel_rfl) (by kernel_rfl) (by have h9 := get_lt (set_at (y := (f.setc gs ((f.can (gs : Nat)) - am))) hf); (try simp only [List.length_set] at h9); omega) (row_some S 1 rfl (m := gi) (by have h9 := get_lt (set_at (y := (f.setc gs ((f.can (gs : Nat)) - am))) hf); (try simp only [List.length_set] at h9); omega)) (⟨(), rfl, (SameB.refl _ _ rfl), S⟩)
       refine ⟨?_, ?_⟩
       ·
        refine ⟨_, rfl, rfl, by kernel_rfl, ?_⟩
        rintro D ⟨⟩ a z S F
        refine ⟨by kernel_rfl, ?_⟩
        exact op_indexArr _ 26 _ _ Ar (gi * 2) 2 (1 - gs) 1 .i64 F rfl (by kernel_rfl) (by kernel_rfl) (by kernel_rfl) (by kernel_rfl) (by omega) (row_some S 1 rfl (m := gi) (by have h9 := get_lt (set_at (y := (f.setc gs ((f.can (gs : Nat)) - am))) hf); (try simp only [List.length_set] at h9); omega)) (⟨(), rfl, (SameB.refl _ _ rfl), S⟩)
       refine ⟨?_, ?_⟩
       ·
        refine ⟨_, rfl, rfl, by kernel_rfl, ?_⟩
        rintro D ⟨⟩ a z S F
        refine ⟨by kernel_rfl, ?_⟩
        exact op_storeEnd S 1 _ _ _ Ar gi (1 - gs) (gi * 2 + (1 - gs) * 1) ((f.can (1 - gs : Nat)) + am) F (set_at (y := (f.setc gs ((f.can (gs : Nat)) - am))) hf) rfl rfl (by kernel_rfl) (by omega) (by kernel_rfl) (by kernel_rfl) (by omega) fun z S => ⟨(), rfl, (SameB.refl _ _ rfl), S⟩
       trivial
      ·
       rintro ⟨⟩ a z F S
       have F := F.sub (l := [(0, .slice Ar n9 cr), (2, .int .i64 (fr : Nat)), (6, .pointer (some ⟨b1, 0, none⟩)), (11, .slice A2 by_.length c3), (12, .int .u64 am), (16, .int .i64 (a1 : Nat)), (17, .pointer (some ⟨b19, 0, none⟩)), (18, .int .i64 (gs : Nat))]) ⟨by kernel_rfl, by kernel_rfl, by kernel_rfl, by kernel_rfl, by kernel_rfl, by kernel_rfl, by kernel_rfl, by kernel_rfl, trivial⟩
       have S : Sat w z [rest w G, row 57 2 (.slice Ar n9 cr) n9 (((y2.edges.set gi (f.setc gs ((f.can (gs : Nat)) - am))).set gi ((f.setc gs ((f.can (gs : Nat)) - am)).setc (1 - gs) ((f.can (1 - gs : Nat)) + am))).flatMap resC), box b1 32 [.slice As x.spots.length cs, .slice Ae x.edges.length ce], row 3 1 (.slice A2 by_.length c3) by_.length (by_.flatMap iC_i64), box b19 62 [.int .i64 ed.a, .int .i64 ed.b, .int .u64 ed.c0, .int .u64 ed.c1, .int .u64 ed.b0, .int .u64 ed.r0, .int .u64 ed.b1, .int .u64 ed.r1]] := S
       refine then_n ?_
       refine wp_region_list ?_
       refine l_pure 2 (fun L => (104, .pointer (some ⟨b19, 0, none⟩)) :: (103, .int .i64 (gs : Nat)) :: L) F (by kernel_rfl) fun a F => ?_
       refine l_do F rfl rfl (op_indexArr _ 3 _ _ (some ⟨b19, 0, none⟩) (0) 2 gs 1 .i64 F rfl (by kernel_rfl) (by kernel_rfl) (by kernel_rfl) (by kernel_rfl) (by omega) rfl (fun a F => ?_))
       refine l_do F rfl rfl (op_load _ _ (some ⟨b19, 0, none⟩) (0 + gs * 1) (.int .i64 (gu : Nat)) F rfl (by kernel_rfl) (by kernel_rfl) (cell_off (cBox S 4 rfl (j := 0 + gs * 1) (by rw [← heu]; exact (edC_end ed (m := gs) (by omega)))) (by omega)) (fun a F => ?_))
       refine l_pure 1 (fun L => (16, .int .i64 (gu : Nat)) :: L) F (by kernel_rfl) fun a F => ?_
       refine l_nil (inb_n ?_)
       refine then_n ?_
       have hX9 : ((y2.edges.set gi (f.setc gs ((f.can (gs : Nat)) - am))).set gi ((f.setc gs ((f.can (gs : Nat)) - am)).setc (1 - gs) ((f.can (1 - gs : Nat)) + am))) = (put1 y2 gi f gs am).edges := by rw [List.set_set, setc_sent f hs2 am]; rfl
       have S := S.rowX 1 hX9 rfl
       have hp1 : put1H y2 am (⟨gi, gs, (gu : Int), (a1 : Int)⟩ : Hop) = (put1 y2 gi f gs am) := put1H_of hf
       have hnd := hnd2
       rw [hLM, List.map_cons, List.nodup_cons] at hnd
       exact ⟨_, (by rw [hm, hLM]; simp), gu, (put1 y2 gi f gs am), M, rfl, hbM, (fun g hg => hsubL g (by rw [hLM]; simp [hg])), hnd.2, (by rw [← hpush, hLM]; show _ = pushL (put1H y2 am _) am M; rw [hp1]), (put1_res hres2 hf hs2 (by omega) (by omega) (by omega)), (fun g hg => by
         rw [← hp1]
         exact hop_far (fun e9 => hnd.1 (by rw [← e9]; exact List.mem_map_of_mem hg)) (hok2 g (by rw [hLM]; simp [hg]))), F.sub ⟨by kernel_rfl, by kernel_rfl, by kernel_rfl, by kernel_rfl, by kernel_rfl, by kernel_rfl, trivial⟩, (S.pick [0, 1, 2, 3] (by decide))⟩
  ·
   skip
   obtain ⟨gi, gs, gu, M, hLM, hbM, hby, hal, hgul, hgL⟩ := hop_at hnode hback ht11 hsubL
   obtain ⟨ed, f, hed, hf, hs2, heu, hsd, hcan, hsm⟩ := hop_edge hres (hL2 _ hgL)
   have hgi := (List.getElem?_eq_some_iff.1 hf).1
   have hlen1 := hres.len
   refine l_do F rfl rfl (op_pure F (v0 := .bool (((a1 : Nat) : Int) != ((fr : Nat) : Int))) (v := .bool true) (by kernel_rfl) (neqT ht11) fun a F => ?_)
   refine l_then ?_
   refine c_t F rfl ?_
   refine wp_skip ?_
   refine then_n ?_
   refine wp_block ?_
   refine wp_seq ?_
   have S := S.pushEmp
   refine region_gx (fun D => fun (b21 : Nat) => [rest w G, row 57 2 (.slice Ar n9 cr) n9 (y.edges.flatMap resC), box b1 32 [.slice As x.spots.length cs, .slice Ae x.edges.length ce], row 3 1 (.slice A2 by_.length c3) by_.length (by_.flatMap iC_i64), bif D 9 then box b21 62 [.int .i64 ed.a, .int .i64 ed.b, .int .u64 ed.c0, .int .u64 ed.c1, .int .u64 ed.b0, .int .u64 ed.r0, .int .u64 ed.b1, .int .u64 ed.r1] else (bif D 8 then box b21 62 [.int .i64 0, .int .i64 0, .int .u64 0, .int .u64 0, .int .u64 0, .int .u64 0, .int .u64 0, .int .u64 0] else emp)]) (fun (b21 : Nat) => [.pointer (some ⟨b1, 1, none⟩), .slice Ae x.edges.length ce, .slice A2 by_.length c3, .int .i64 (a1 : Nat), ptrA A2 (a1 * 1), .int .i64 (gi : Nat), ptrA Ae (gi * 8), .agg #[.int .i64 ed.a, .int .i64 ed.b, .int .u64 ed.c0, .int .u64 ed.c1, .int .u64 ed.b0, .int .u64 ed.r0, .int .u64 ed.b1, .int .u64 ed.r1], .pointer (some ⟨b21, 0, none⟩), undef]) [(1, [], [6, 7, 9]), (4, [], [5, 6, 7, 9]), (5, [4], [6, 7, 9]), (6, [1, 4, 5], [7, 9]), (7, [1, 4, 5, 6], [9]), (8, [], [9]), (9, [1, 4, 5, 6, 7, 8], [])] 0 rfl (by kernel_rfl) (by kernel_rfl) F S.drew ?_ ?_ ?_ ?_ ?_
   · rintro b21; rfl
   · rintro b21; kernel_rfl
   ·
    intro D D' x h
    obtain b21 := x
    simp only [h 8 (by decide), h 9 (by decide)]
   ·
    refine ⟨?_, ?_⟩
    ·
     refine ⟨_, rfl, rfl, by kernel_rfl, ?_⟩
     rintro D b21 a z S F
     refine ⟨by kernel_rfl, ?_⟩
     exact op_load _ _ (some ⟨b1, 0, none⟩) 1 (.slice Ae x.edges.length ce) F rfl (by kernel_rfl) (by kernel_rfl) (cBox S 2 rfl (j := 1) rfl) (⟨b21, rfl, (SameB.refl _ _ rfl), S⟩)
    refine ⟨?_, ?_⟩
    ·
     refine ⟨_, rfl, rfl, by kernel_rfl, ?_⟩
     rintro D b21 a z S F
     refine ⟨by kernel_rfl, ?_⟩
     exact op_index _ 3 _ _ A2 by_.length c3 a1 1 .i64 F rfl (by kernel_rfl) (by kernel_rfl) (by kernel_rfl) (by kernel_rfl) (get_lt hby) (row_some S 3 rfl (m := a1) (get_lt hby)) (⟨b21, rfl, (SameB.refl _ _ rfl), S⟩)
    refine ⟨?_, ?_⟩
    ·
     refine ⟨_, rfl, rfl, by kernel_rfl, ?_⟩
     rintro D b21 a z S F
     refine ⟨by kernel_rfl, ?_⟩
     exact op_load _ _ A2 (a1 * 1) (.int .i64 (gi : Nat)) F rfl (by kernel_rfl) (by kernel_rfl) (cRec S 3 iC_len_i64 rfl 0 hby rfl) (⟨b21, rfl, (SameB.refl _ _ rfl), S⟩)
    refine ⟨?_, ?_⟩
    ·
     refine ⟨_, rfl, rfl, by kernel_rfl, ?_⟩
     rintro D b21 a z S F
     refine ⟨by kernel_rfl, ?_⟩
     exact op_index _ 62 _ _ Ae x.edges.length ce gi 8 .i64 F rfl (by kernel_rfl) (by kernel_rfl) (by kernel_rfl) (by kernel_rfl) (get_lt hed) (recs_some h.e (m := gi) (get_lt hed)) (⟨b21, rfl, (SameB.refl _ _ rfl), S⟩)
    refine ⟨?_, ?_⟩
    ·
     refine ⟨_, rfl, rfl, by kernel_rfl, ?_⟩
     rintro D b21 a z S F
     refine ⟨by kernel_rfl, ?_⟩
     exact op_loadK _ _ Ae (gi * 8) [.int .i64 ed.a, .int .i64 ed.b, .int .u64 ed.c0, .int .u64 ed.c1, .int .u64 ed.b0, .int .u64 ed.r0, .int .u64 ed.b1, .int .u64 ed.r1] F rfl (by kernel_rfl) (by kernel_rfl) (by kernel_rfl) (by simp) (cReadK0 edC_len (h.e.mono (src_rest S (i := 0) rfl h.e.src ge)) hed (by kernel_rfl)) (⟨b21, rfl, (SameB.refl _ _ rfl), S⟩)
    refine ⟨?_, ?_⟩
    ·
     refine ⟨_, rfl, rfl, by kernel_rfl, ?_⟩
     rintro D b21 a z S F
     refine ⟨by kernel_rfl, ?_⟩
     exact op_allocF S 4 rfl _ (.agg #[.int .i64 0, .int .i64 0, .int .u64 0, .int .u64 0, .int .u64 0, .int .u64 0, .int .u64 0, .int .u64 0]) rfl (by kernel_rfl) fun y22 z S => ⟨y22, rfl, ⟨rfl, rfl, rfl, rfl, rfl, rfl, rfl, rfl, trivial, trivial, trivial⟩, S⟩
    refine ⟨?_, ?_⟩
    ·
     refine ⟨_, rfl, rfl, by kernel_rfl, ?_⟩
     rintro D b21 a z S F
     refine ⟨by kernel_rfl, ?_⟩
     exact op_storeB S 4 _ _ _ b21 0 (.agg #[.int .i64 ed.a, .int .i64 ed.b, .int .u64 ed.c0, .int .u64 ed.c1, .int .u64 ed.b0, .int .u64 ed.r0, .int .u64 ed.b1, .int .u64 ed.r1]) F rfl rfl (by kernel_rfl) (by kernel_rfl) (by kernel_rfl) (by kernel_rfl) (by kernel_rfl) fun z S => ⟨b21, rfl, (SameB.refl _ _ rfl), S⟩
    trivial
   ·
    rintro b21 a z F S
    have F := F.sub (l := [(0, .slice Ar n9 cr), (2, .int .i64 (fr : Nat)), (3, .int .i64 (to : Nat)), (6, .pointer (some ⟨b1, 0, none⟩)), (11, .slice A2 by_.length c3), (12, .int .u64 am), (13, .int .i64 (a1 : Nat)), (14, .pointer (some ⟨b21, 0, none⟩))]) ⟨by kernel_rfl, by kernel_rfl, by kernel_rfl, by kernel_rfl, by kernel_rfl, by kernel_rfl, by kernel_rfl, by kernel_rfl, trivial⟩
    have S : Sat w z [rest w G, row 57 2 (.slice Ar n9 cr) n9 (y.edges.flatMap resC), box b1 32 [.slice As x.spots.length cs, .slice Ae x.edges.length ce], row 3 1 (.slice A2 by_.length c3) by_.length (by_.flatMap iC_i64), box b21 62 [.int .i64 ed.a, .int .i64 ed.b, .int .u64 ed.c0, .int .u64 ed.c1, .int .u64 ed.b0, .int .u64 ed.r0, .int .u64 ed.b1, .int .u64 ed.r1]] := S
    refine then_n ?_
    refine s_reg ?_
    refine l_do F rfl rfl (op_loadK _ _ (some ⟨b21, 0, none⟩) 0 [.int .i64 ed.a, .int .i64 ed.b, .int .u64 ed.c0, .int .u64 ed.c1, .int .u64 ed.b0, .int .u64 ed.r0, .int .u64 ed.b1, .int .u64 ed.r1] F rfl (by kernel_rfl) (by kernel_rfl) (by kernel_rfl) (by simp) (cBoxK S 4 rfl 0 (by kernel_rfl)) (fun a F => ?_))
    refine l_pure 1 (fun L => (42, .int .i64 (a1 : Nat)) :: L) F (by kernel_rfl) fun a F => ?_
    refine l_do F rfl rfl (op_fn F (by kernel_rfl) (side_at hsd _) ?_)
    rintro e z ⟨rfl, hb⟩
    have S := S.grow hb
    refine ⟨_, rfl, ?_⟩
    intro a F
    refine l_do F rfl rfl (op_pure F (v0 := .int .i64 (IntKind.wrap .i64 (1 - (1 - gs : Nat)))) (v := .int .i64 (gs : Nat)) (by kernel_rfl) (wrn_i64 (by omega) (by omega) (by omega)) fun a F => ?_)
    refine l_pure 1 (fun L => (15, .int .i64 (gs : Nat)) :: L) F (by kernel_rfl) fun a F => ?_
    refine l_then ?_
    by_cases ht23 : (am : Int) ≤ (f.can (gs : Nat) : Int)
    ·
     skip
     refine region_gx (fun D => fun (_ : Unit) => [rest w G, row 57 2 (.slice Ar n9 cr) n9 (y.edges.flatMap resC), box b1 32 [.slice As x.spots.length cs, .slice Ae x.edges.length ce], row 3 1 (.slice A2 by_.length c3) by_.length (by_.flatMap iC_i64), box b21 62 [.int .i64 ed.a, .int .i64 ed.b, .int .u64 ed.c0, .int .u64 ed.c1, .int .u64 ed.b0, .int .u64 ed.r0, .int .u64 ed.b1, .int .u64 ed.r1]]) (fun (_ : Unit) => [.int .u64 am, .slice Ar n9 cr, .slice A2 by_.length c3, .int .i64 (a1 : Nat), ptrA A2 (a1 * 1), .int .i64 (gi : Nat), .int .i64 (gs : Nat), ptrA Ar (gi * 2), ptrA Ar (gi * 2 + gs * 1), .int .u64 (f.can (gs : Nat)), .int .u64 am, .int .i64 (gs : Nat), .pointer (some ⟨b21, 0, none⟩), ptrA (some ⟨b21, 0, none⟩) (0 + gs * 1), .int .i64 (gu : Nat), .int .u64 am, .int .i64 (gu : Nat)]) [(4, [], [5, 7, 8, 9, 10]), (5, [4], [7, 8, 9, 10]), (7, [4, 5], [8, 9, 10]), (8, [4, 5, 7], [9, 10]), (9, [4, 5, 7, 8], [10]), (10, [4, 5, 7, 8, 9], []), (13, [], [14]), (14, [13], [])] () rfl (by kernel_rfl) (by kernel_rfl) F S.drew ?_ ?_ ?_ ?_ ?_
     · rintro ⟨⟩; rfl
     · rintro ⟨⟩; kernel_rfl
     ·
      intro D D' x h
      cases x
      rfl
     ·
      refine ⟨?_, ?_⟩
      ·
       refine ⟨_, rfl, rfl, by kernel_rfl, ?_⟩
       rintro D ⟨⟩ a z S F
       refine ⟨by kernel_rfl, ?_⟩
       exact op_index _ 3 _ _ A2 by_.length c3 a1 1 .i64 F rfl (by kernel_rfl) (by kernel_rfl) (by kernel_rfl) (by kernel_rfl) (get_lt hby) (row_some S 3 rfl (m := a1) (get_lt hby)) (⟨(), rfl, (SameB.refl _ _ rfl), S⟩)
      refine ⟨?_, ?_⟩
      ·
       refine ⟨_, rfl, rfl, by kernel_rfl, ?_⟩
       rintro D ⟨⟩ a z S F
       refine ⟨by kernel_rfl, ?_⟩
       exact op_load _ _ A2 (a1 * 1) (.int .i64 (gi : Nat)) F rfl (by kernel_rfl) (by kernel_rfl) (cRec S 3 iC_len_i64 rfl 0 hby rfl) (⟨(), rfl, (SameB.refl _ _ rfl), S⟩)
      refine ⟨?_, ?_⟩
      ·
       refine ⟨_, rfl, rfl, by kernel_rfl, ?_⟩
       rintro D ⟨⟩ a z S F
       refine ⟨by kernel_rfl, ?_⟩
       exact op_index _ 57 _ _ Ar n9 cr gi 2 .i64 F rfl (by kernel_rfl) (by kernel_rfl) (by kernel_rfl) (by kernel_rfl) (by have h9 := get_lt hf; (try simp only [List.length_set] at h9); omega) (row_some S 1 rfl (m := gi) (by have h9 := get_lt hf; (try simp only [List.length_set] at h9); omega)) (⟨(), rfl, (SameB.refl _ _ rfl), S⟩)
      refine ⟨?_, ?_⟩
      ·
       refine ⟨_, rfl, rfl, by kernel_rfl, ?_⟩
       rintro D ⟨⟩ a z S F
       refine ⟨by kernel_rfl, ?_⟩
       exact op_indexArr _ 26 _ _ Ar (gi * 2) 2 gs 1 .i64 F rfl (by kernel_rfl) (by kernel_rfl) (by kernel_rfl) (by kernel_rfl) (by omega) (row_some S 1 rfl (m := gi) (by have h9 := get_lt hf; (try simp only [List.length_set] at h9); omega)) (⟨(), rfl, (SameB.refl _ _ rfl), S⟩)
      refine ⟨?_, ?_⟩
      ·
       refine ⟨_, rfl, rfl, by kernel_rfl, ?_⟩
       rintro D ⟨⟩ a z S F
       refine ⟨by kernel_rfl, ?_⟩
       exact op_load _ _ Ar (gi * 2 + gs * 1) (.int .u64 (f.can (gs : Nat))) F rfl (by kernel_rfl) (by kernel_rfl) (cell_off (cRec S 1 resC_len rfl (0 + gs * 1) hf (resC_can f (m := gs) (by omega))) (by omega)) (⟨(), rfl, (SameB.refl _ _ rfl), S⟩)
      refine ⟨?_, ?_⟩
      ·
       refine ⟨_, rfl, rfl, by kernel_rfl, ?_⟩
       rintro D ⟨⟩ a z S F
       refine ⟨by kernel_rfl, ?_⟩
       exact op_pure F (v0 := .int .u64 (if (f.can (gs : Nat) : Int) < (am : Int) then (f.can (gs : Nat) : Int) else (am : Int))) (v := .int .u64 am) (by kernel_rfl) (minT ht23) ⟨(), rfl, (SameB.refl _ _ rfl), S⟩
      refine ⟨?_, ?_⟩
      ·
       refine ⟨_, rfl, rfl, by kernel_rfl, ?_⟩
       rintro D ⟨⟩ a z S F
       refine ⟨by kernel_rfl, ?_⟩
       exact op_indexArr _ 3 _ _ (some ⟨b21, 0, none⟩) (0) 2 gs 1 .i64 F rfl (by kernel_rfl) (by kernel_rfl) (by kernel_rfl) (by kernel_rfl) (by omega) rfl (⟨(), rfl, (SameB.refl _ _ rfl), S⟩)
      refine ⟨?_, ?_⟩
      ·
       refine ⟨_, rfl, rfl, by kernel_rfl, ?_⟩
       rintro D ⟨⟩ a z S F
       refine ⟨by kernel_rfl, ?_⟩
       exact op_load _ _ (some ⟨b21, 0, none⟩) (0 + gs * 1) (.int .i64 (gu : Nat)) F rfl (by kernel_rfl) (by kernel_rfl) (cell_off (cBox S 4 rfl (j := 0 + gs * 1) (by rw [← heu]; exact (edC_end ed (m := gs) (by omega)))) (by omega)) (⟨(), rfl, (SameB.refl _ _ rfl), S⟩)
      trivial
     ·
      rintro ⟨⟩ a z F S
      have F := F.sub (l := [(0, .slice Ar n9 cr), (2, .int .i64 (fr : Nat)), (3, .int .i64 (to : Nat)), (6, .pointer (some ⟨b1, 0, none⟩)), (11, .slice A2 by_.length c3), (12, .int .u64 am), (13, .int .i64 (gu : Nat))]) ⟨by kernel_rfl, by kernel_rfl, by kernel_rfl, by kernel_rfl, by kernel_rfl, by kernel_rfl, by kernel_rfl, trivial⟩
      have S : Sat w z [rest w G, row 57 2 (.slice Ar n9 cr) n9 (y.edges.flatMap resC), box b1 32 [.slice As x.spots.length cs, .slice Ae x.edges.length ce], row 3 1 (.slice A2 by_.length c3) by_.length (by_.flatMap iC_i64), box b21 62 [.int .i64 ed.a, .int .i64 ed.b, .int .u64 ed.c0, .int .u64 ed.c1, .int .u64 ed.b0, .int .u64 ed.r0, .int .u64 ed.b1, .int .u64 ed.r1]] := S
      refine inb_n ?_
      refine then_n ?_
      exact ⟨_, (by rw [hm, hLM]; simp), gu, am, M, rfl, (by omega), (by omega), (by omega), hbM, (fun g hg => hsubL g (by rw [hLM]; simp [hg])), (fun g hg => by
        rcases hall g hg with h9 | h9
        · rw [hLM] at h9
          rcases List.mem_cons.1 h9 with rfl | h9
          · exact .inr ⟨f, hf, hs2, (hop_of (hL2 _ hgL) hf).1, (hop_of (hL2 _ hgL) hf).2.1, (hop_of (hL2 _ hgL) hf).2.2, by show _ ≤ f.can (gs : Int); omega⟩
          · exact .inl h9
        · exact .inr (hop_le h9 (by omega))), F.sub ⟨by kernel_rfl, by kernel_rfl, by kernel_rfl, by kernel_rfl, by kernel_rfl, by kernel_rfl, by kernel_rfl, trivial⟩, (S.pick [0, 1, 2, 3] (by decide))⟩
    ·
     skip
     refine region_gx (fun D => fun (_ : Unit) => [rest w G, row 57 2 (.slice Ar n9 cr) n9 (y.edges.flatMap resC), box b1 32 [.slice As x.spots.length cs, .slice Ae x.edges.length ce], row 3 1 (.slice A2 by_.length c3) by_.length (by_.flatMap iC_i64), box b21 62 [.int .i64 ed.a, .int .i64 ed.b, .int .u64 ed.c0, .int .u64 ed.c1, .int .u64 ed.b0, .int .u64 ed.r0, .int .u64 ed.b1, .int .u64 ed.r1]]) (fun (_ : Unit) => [.int .u64 am, .slice Ar n9 cr, .slice A2 by_.length c3, .int .i64 (a1 : Nat), ptrA A2 (a1 * 1), .int .i64 (gi : Nat), .int .i64 (gs : Nat), ptrA Ar (gi * 2), ptrA Ar (gi * 2 + gs * 1), .int .u64 (f.can (gs : Nat)), .int .u64 (f.can (gs : Nat)), .int .i64 (gs : Nat), .pointer (some ⟨b21, 0, none⟩), ptrA (some ⟨b21, 0, none⟩) (0 + gs * 1), .int .i64 (gu : Nat), .int .u64 (f.can (gs : Nat)), .int .i64 (gu : Nat)]) [(4, [], [5, 7, 8, 9, 10]), (5, [4], [7, 8, 9, 10]), (7, [4, 5], [8, 9, 10]), (8, [4, 5, 7], [9, 10]), (9, [4, 5, 7, 8], [10]), (10, [4, 5, 7, 8, 9], []), (13, [], [14]), (14, [13], [])] () rfl (by kernel_rfl) (by kernel_rfl) F S.drew ?_ ?_ ?_ ?_ ?_
     · rintro ⟨⟩; rfl
     · rintro ⟨⟩; kernel_rfl
     ·
      intro D D' x h
      cases x
      rfl
     ·
      refine ⟨?_, ?_⟩
      ·
       refine ⟨_, rfl, rfl, by kernel_rfl, ?_⟩
       rintro D ⟨⟩ a z S F
       refine ⟨by kernel_rfl, ?_⟩
       exact op_index _ 3 _ _ A2 by_.length c3 a1 1 .i64 F rfl (by kernel_rfl) (by kernel_rfl) (by kernel_rfl) (by kernel_rfl) (get_lt hby) (row_some S 3 rfl (m := a1) (get_lt hby)) (⟨(), rfl, (SameB.refl _ _ rfl), S⟩)
      refine ⟨?_, ?_⟩
      ·
       refine ⟨_, rfl, rfl, by kernel_rfl, ?_⟩
       rintro D ⟨⟩ a z S F
       refine ⟨by kernel_rfl, ?_⟩
       exact op_load _ _ A2 (a1 * 1) (.int .i64 (gi : Nat)) F rfl (by kernel_rfl) (by kernel_rfl) (cRec S 3 iC_len_i64 rfl 0 hby rfl) (⟨(), rfl, (SameB.refl _ _ rfl), S⟩)
      refine ⟨?_, ?_⟩
      ·
       refine ⟨_, rfl, rfl, by kernel_rfl, ?_⟩
       rintro D ⟨⟩ a z S F
       refine ⟨by kernel_rfl, ?_⟩
       exact op_index _ 57 _ _ Ar n9 cr gi 2 .i64 F rfl (by kernel_rfl) (by kernel_rfl) (by kernel_rfl) (by kernel_rfl) (by have h9 := get_lt hf; (try simp only [List.length_set] at h9); omega) (row_some S 1 rfl (m := gi) (by have h9 := get_lt hf; (try simp only [List.length_set] at h9); omega)) (⟨(), rfl, (SameB.refl _ _ rfl), S⟩)
      refine ⟨?_, ?_⟩
      ·
       refine ⟨_, rfl, rfl, by kernel_rfl, ?_⟩
       rintro D ⟨⟩ a z S F
       refine ⟨by kernel_rfl, ?_⟩
       exact op_indexArr _ 26 _ _ Ar (gi * 2) 2 gs 1 .i64 F rfl (by kernel_rfl) (by kernel_rfl) (by kernel_rfl) (by kernel_rfl) (by omega) (row_some S 1 rfl (m := gi) (by have h9 := get_lt hf; (try simp only [List.length_set] at h9); omega)) (⟨(), rfl, (SameB.refl _ _ rfl), S⟩)
      refine ⟨?_, ?_⟩
      ·
       refine ⟨_, rfl, rfl, by kernel_rfl, ?_⟩
       rintro D ⟨⟩ a z S F
       refine ⟨by kernel_rfl, ?_⟩
       exact op_load _ _ Ar (gi * 2 + gs * 1) (.int .u64 (f.can (gs : Nat))) F rfl (by kernel_rfl) (by kernel_rfl) (cell_off (cRec S 1 resC_len rfl (0 + gs * 1) hf (resC_can f (m := gs) (by omega))) (by omega)) (⟨(), rfl, (SameB.refl _ _ rfl), S⟩)
      refine ⟨?_, ?_⟩
      ·
       refine ⟨_, rfl, rfl, by kernel_rfl, ?_⟩
       rintro D ⟨⟩ a z S F
       refine ⟨by kernel_rfl, ?_⟩
       exact op_pure F (v0 := .int .u64 (if (f.can (gs : Nat) : Int) < (am : Int) then (f.can (gs : Nat) : Int) else (am : Int))) (v := .int .u64 (f.can (gs : Nat))) (by kernel_rfl) (minF ht23) ⟨(), rfl, (SameB.refl _ _ rfl), S⟩
      refine ⟨?_, ?_⟩
      ·
       refine ⟨_, rfl, rfl, by kernel_rfl, ?_⟩
       rintro D ⟨⟩ a z S F
       refine ⟨by kernel_rfl, ?_⟩
       exact op_indexArr _ 3 _ _ (some ⟨b21, 0, none⟩) (0) 2 gs 1 .i64 F rfl (by kernel_rfl) (by kernel_rfl) (by kernel_rfl) (by kernel_rfl) (by omega) rfl (⟨(), rfl, (SameB.refl _ _ rfl), S⟩)
      refine ⟨?_, ?_⟩
      ·
       refine ⟨_, rfl, rfl, by kernel_rfl, ?_⟩
       rintro D ⟨⟩ a z S F
       refine ⟨by kernel_rfl, ?_⟩
       exact op_load _ _ (some ⟨b21, 0, none⟩) (0 + gs * 1) (.int .i64 (gu : Nat)) F rfl (by kernel_rfl) (by kernel_rfl) (cell_off (cBox S 4 rfl (j := 0 + gs * 1) (by rw [← heu]; exact (edC_end ed (m := gs) (by omega)))) (by omega)) (⟨(), rfl, (SameB.refl _ _ rfl), S⟩)
      trivial
     ·
      rintro ⟨⟩ a z F S
      have F := F.sub (l := [(0, .slice Ar n9 cr), (2, .int .i64 (fr : Nat)), (3, .int .i64 (to : Nat)), (6, .pointer (some ⟨b1, 0, none⟩)), (11, .slice A2 by_.length c3), (12, .int .u64 (f.can (gs : Nat))), (13, .int .i64 (gu : Nat))]) ⟨by kernel_rfl, by kernel_rfl, by kernel_rfl, by kernel_rfl, by kernel_rfl, by kernel_rfl, by kernel_rfl, trivial⟩
      have S : Sat w z [rest w G, row 57 2 (.slice Ar n9 cr) n9 (y.edges.flatMap resC), box b1 32 [.slice As x.spots.length cs, .slice Ae x.edges.length ce], row 3 1 (.slice A2 by_.length c3) by_.length (by_.flatMap iC_i64), box b21 62 [.int .i64 ed.a, .int .i64 ed.b, .int .u64 ed.c0, .int .u64 ed.c1, .int .u64 ed.b0, .int .u64 ed.r0, .int .u64 ed.b1, .int .u64 ed.r1]] := S
      refine inb_n ?_
      refine then_n ?_
      exact ⟨_, (by rw [hm, hLM]; simp), gu, f.can (gs : Nat), M, rfl, (by omega), (by omega), (by omega), hbM, (fun g hg => hsubL g (by rw [hLM]; simp [hg])), (fun g hg => by
        rcases hall g hg with h9 | h9
        · rw [hLM] at h9
          rcases List.mem_cons.1 h9 with rfl | h9
          · exact .inr ⟨f, hf, hs2, (hop_of (hL2 _ hgL) hf).1, (hop_of (hL2 _ hgL) hf).2.1, (hop_of (hL2 _ hgL) hf).2.2, by show _ ≤ f.can (gs : Int); omega⟩
          · exact .inl h9
        · exact .inr (hop_le h9 (by omega))), F.sub ⟨by kernel_rfl, by kernel_rfl, by kernel_rfl, by kernel_rfl, by kernel_rfl, by kernel_rfl, by kernel_rfl, trivial⟩, (S.pick [0, 1, 2, 3] (by decide))⟩
end Go.Proofs.Ytcfpbemoocegfaa
