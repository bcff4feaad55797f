/- Plain: opened again, a logbook has what it had. -/
import Derived.Test.YtidcdfilfccigaaInv17
namespace Go.Proofs.Ytidcdfilfccigaa
set_option linter.unusedVariables false
set_option linter.unusedSimpArgs false
set_option linter.unnecessarySimpa false
open Go Go.RowKit

/-- A slab that has power, and no fuse. -/
structure Up (s : Sd) : Prop where
  d : s.down = false
  f : s.fuse = -1
theorem Up.stepE {s : Sd} (h : Up s) : s.stepE = 0 := by unfold Sd.stepE; rw [h.d, h.f]; rfl
theorem Up.stepped {s : Sd} (h : Up s) (S L : Bs) : Up (s.stepped S L) ∧ (s.stepped S L).S = S ∧ (s.stepped S L).L = L := by
  unfold Sd.stepped
  rw [if_neg (by rw [h.d]; decide), if_neg (by rw [h.f]; decide)]
  exact ⟨⟨rfl, by rw [h.f]; rfl⟩, rfl, rfl⟩
theorem Up.app {s : Sd} (h : Up s) {P : Bs} (hs : s.S.length + s.L.length + P.length ≤ 262144) : s.appE P.length = 0 ∧ Up (s.app P) ∧ (s.app P).S = s.S ∧ (s.app P).L = s.L ++ P := by
  unfold Sd.appE Sd.app
  rw [if_neg (by rw [h.d]; decide), if_neg (by omega), if_neg (by rw [h.d]; decide), if_neg (by omega)]
  exact ⟨h.stepE, h.stepped _ _⟩
theorem Up.crs (s : Sd) (k z : Int) : Up (s.crs k z) := ⟨rfl, rfl⟩
theorem Up.new : Up Sd.new := ⟨rfl, rfl⟩
theorem Up.rd {s : Sd} (h : Up s) : s.rd = s.S ++ s.L := by unfold Sd.rd; rw [if_neg (by rw [h.d]; decide)]
theorem crs_fit (s : Sd) (keep zeros : Int) : ∃ k z, k + z ≤ s.L.length ∧ (s.crs keep zeros).S = s.S ++ s.L.take k ++ List.replicate z 0 ∧ (s.crs keep zeros).L = [] := by
  refine ⟨s.kept keep, s.zeroed keep zeros, ?_, rfl, rfl⟩
  unfold Sd.zeroed Sd.kept
  omega
section
variable {x : Lg}
theorem comp_fresh (hd : x.lb.dead = 0) (hl : x.lb.life < 4294967295) (hu : Up x.oth) (hs : (allP (x.lb.life + 1) x.lb.L).length ≤ 262144) : ∃ s', (compT x) = (0, x.onOth s' ⟨1 - x.lb.on, x.lb.life + 1, x.lb.L, 0⟩) ∧ Up s' ∧ s'.S = allP (x.lb.life + 1) x.lb.L ∧ s'.L = [] := by
  obtain ⟨a1, a2, a3⟩ := hu.stepped [] []
  have a1' : Up x.oth.ers := a1
  have a2' : x.oth.ers.S = [] := a2
  have a3' : x.oth.ers.L = [] := a3
  obtain ⟨b1, b2, b3, b4⟩ := a1'.app (P := allP (x.lb.life + 1) x.lb.L) (by rw [a2', a3']; simpa using hs)
  obtain ⟨c1, c2, c3⟩ := b2.stepped ((x.oth.ers.app (allP (x.lb.life + 1) x.lb.L)).S ++ (x.oth.ers.app (allP (x.lb.life + 1) x.lb.L)).L) []
  refine ⟨(x.oth.ers.app (allP (x.lb.life + 1) x.lb.L)).syn, ?_, c1, c2.trans (by rw [b3, b4, a2', a3']; rfl), c3⟩
  unfold compT
  rw [if_neg (by rw [hd]; simp), if_neg (by omega), if_neg (by rw [hu.stepE]; simp), if_neg (by rw [b1]; simp), if_neg (by rw [b2.stepE]; simp), hd]
end
theorem pick_zero {M : List NV} {life i : Nat} (h : 1 ≤ life) : pickT lb0 i (life, true, M) = ⟨i, life, M, 0⟩ := by
  unfold pickT; rw [if_pos ⟨rfl, by show 0 < life; omega⟩]
theorem pick_less {lb : Lb} {i : Nat} {t : Tale} (h : t.2.1 = true → t.1 ≤ lb.life) : pickT lb i t = lb := by
  unfold pickT; rw [if_neg (fun h9 => by have := h h9.1; have := h9.2; omega)]
theorem pick_more {lb : Lb} {i : Nat} {t : Tale} (h : t.2.1 = true) (h2 : lb.life < t.1) : pickT lb i t = ⟨i, t.1, t.2.2, 0⟩ := by
  unfold pickT; rw [if_pos ⟨h, h2⟩]
/-- What Open finds: the logbook's slab, or the other one. -/
theorem found_two {y0 y1 : Sd} {on life : Nat} {M M' : List NV} {yc yo : Sd} (hon : (on = 0 ∧ yc = y0 ∧ yo = y1) ∨ (on = 1 ∧ yc = y1 ∧ yo = y0)) (h1 : 1 ≤ life) (hc : tellP yc.rd = (life, true, M)) (ho : (tellP yo.rd).2.1 = true → (tellP yo.rd).1 < life ∨ ((tellP yo.rd).1 = life + 1 ∧ (tellP yo.rd).2.2 = M')) :
    foundT y0 y1 = ⟨on, life, M, 0⟩ ∨ (foundT y0 y1 = ⟨1 - on, life + 1, M', 0⟩ ∧ tellP yo.rd = (life + 1, true, M')) := by
  unfold foundT
  rcases hon with ⟨rfl, rfl, rfl⟩ | ⟨rfl, rfl, rfl⟩
  · rw [hc, pick_zero h1]
    cases hs : (tellP yo.rd).2.1 with
    | false => exact .inl (pick_less (fun h9 => by rw [hs] at h9; cases h9))
    | true =>
      rcases ho hs with h2 | ⟨h2, h3⟩
      · exact .inl (pick_less (fun _ => by show _ ≤ life; omega))
      · refine .inr ⟨?_, ?_⟩
        · rw [pick_more hs (by show life < _; omega), h2, h3]
        · rw [← h2, ← h3, ← hs]
  · rw [hc]
    cases hs : (tellP yo.rd).2.1 with
    | false =>
      rw [pick_less (i := 0) (t := tellP yo.rd) (fun h9 => by rw [hs] at h9; cases h9), pick_zero h1]
      exact .inl rfl
    | true =>
      by_cases hz : (tellP yo.rd).1 = 0
      · rw [pick_less (i := 0) (t := tellP yo.rd) (fun h9 => by rw [hz]; exact Nat.zero_le _), pick_zero h1]
        exact .inl rfl
      · rw [pick_more (i := 0) hs (by show 0 < _; omega)]
        rcases ho hs with h2 | ⟨h2, h3⟩
        · rw [pick_more (t := (life, true, M)) rfl h2]
          exact .inl rfl
        · rw [pick_less (t := (life, true, M)) (fun _ => by show life ≤ (tellP yo.rd).1; omega)]
          refine .inr ⟨by rw [h2, h3], ?_⟩
          rw [← h2, ← h3, ← hs]
section
variable {x : Lg} {may : List (List NV)} {i : Nat}
/-- Opened on slabs that have power and hold nothing loose, or all. -/
theorem open_found {y0 y1 : Sd} {on life : Nat} {M : List NV} {k : Nat} (u0 : Up y0) (u1 : Up y1) (in0 : y0.In (3 * k)) (in1 : y1.In (3 * k)) (hf : foundT y0 y1 = ⟨on, life, M, 0⟩) (hon : on ≤ 1) (h1 : 1 ≤ life) (hl : life + 1 ≤ 1 + 2 * k) (hk : k ≤ 56) (hg : GoodL M k)
    (hold : ∀ k z, k + z ≤ (if on = 0 then y0 else y1).L.length → (tellP ((if on = 0 then y0 else y1).S ++ (if on = 0 then y0 else y1).L.take k ++ List.replicate z 0)).1 < life + 1) :
    (openT y0 y1).1 = 0 ∧ (openT y0 y1).2.lb = ⟨1 - on, life + 1, M, 0⟩ ∧ Up (openT y0 y1).2.s0 ∧ Up (openT y0 y1).2.s1 ∧ Inv (openT y0 y1).2 [M] k := by
  have hall := hg.all (life + 1)
  have hu : Up (Lg.oth ⟨⟨on, life, M, 0⟩, y0, y1⟩) := by unfold Lg.oth; split; exact u1; exact u0
  obtain ⟨s', e, a1, a2, a3⟩ := comp_fresh (x := ⟨⟨on, life, M, 0⟩, y0, y1⟩) rfl (by show life < _; omega) hu (by show (allP (life + 1) M).length ≤ _; omega)
  have eo : openT y0 y1 = (0, Lg.onOth ⟨⟨on, life, M, 0⟩, y0, y1⟩ s' ⟨1 - on, life + 1, M, 0⟩) := by unfold openT; rw [hf]; exact e
  obtain ⟨p0, p1⟩ := open_in in0 in1
  rw [eo] at p0 p1 ⊢
  refine ⟨rfl, onOth_lb, ?_, ?_, ?_⟩
  · unfold Lg.onOth; split; exact u0; exact a1
  · unfold Lg.onOth; split; exact a1; exact u1
  · obtain ⟨b1, b2⟩ := cur_flip (x := ⟨⟨on, life, M, 0⟩, y0, y1⟩) (s := s') (lb := ⟨1 - on, life + 1, M, 0⟩) hon rfl
    have hci : s'.In (3 * k + 3) := by
      have : (Lg.cur (Lg.onOth ⟨⟨on, life, M, 0⟩, y0, y1⟩ s' ⟨1 - on, life + 1, M, 0⟩)).In (3 * k + 3) := cur_in p0 p1
      rw [b1] at this; exact this
    unfold Inv
    rw [b1, b2, onOth_lb]
    refine inv_new (by omega) hg (by omega) hl (by omega) a2 a3 hci (((cur_in (x := ⟨⟨on, life, M, 0⟩, y0, y1⟩) in0 in1)).mono (by omega)) ?_
    exact hold
/-- Power went, and came again. -/
theorem inv_crash (h : Inv x may i) (hi : i ≤ 55) (k0 z0 k1 z1 : Int) : (openT (x.s0.crs k0 z0) (x.s1.crs k1 z1)).1 = 0 ∧ (∃ M ∈ may, (openT (x.s0.crs k0 z0) (x.s1.crs k1 z1)).2.lb.L = M) ∧ 1 ≤ (openT (x.s0.crs k0 z0) (x.s1.crs k1 z1)).2.lb.life ∧ Inv (openT (x.s0.crs k0 z0) (x.s1.crs k1 z1)).2 [(openT (x.s0.crs k0 z0) (x.s1.crs k1 z1)).2.lb.L] (i + 1) := by
  have hci := h.ci
  have hoi := h.oi
  have hlf := h.lf
  have main : ∀ {on : Nat} {c o y0 y1 yc yo : Sd} {kc zc ko zo : Int}, on = x.lb.on → c = x.cur → o = x.oth → yc = c.crs kc zc → yo = o.crs ko zo → ((on = 0 ∧ yc = y0 ∧ yo = y1) ∨ (on = 1 ∧ yc = y1 ∧ yo = y0)) → y0.In (3 * ((i + 1 : Nat) : Int)) → y1.In (3 * ((i + 1 : Nat) : Int)) → Up y0 → Up y1 →
      (openT y0 y1).1 = 0 ∧ (∃ M ∈ may, (openT y0 y1).2.lb.L = M) ∧ 1 ≤ (openT y0 y1).2.lb.life ∧ Inv (openT y0 y1).2 [(openT y0 y1).2.lb.L] (i + 1) := by
    intro on c o y0 y1 yc yo kc zc ko zo eon ec eo eyc eyo harr in0 in1 u0 u1
    obtain ⟨k, z, hkz, s1, s2⟩ := crs_fit c kc zc
    obtain ⟨k', z', hkz', t1, t2⟩ := crs_fit o ko zo
    have huc : Up yc := eyc ▸ Up.crs _ _ _
    have huo : Up yo := eyo ▸ Up.crs _ _ _
    have ycS : yc.S = c.S ++ c.L.take k ++ List.replicate z 0 := by rw [eyc]; exact s1
    have ycL : yc.L = [] := by rw [eyc]; exact s2
    have yoS : yo.S = o.S ++ o.L.take k' ++ List.replicate z' 0 := by rw [eyo]; exact t1
    have yoL : yo.L = [] := by rw [eyo]; exact t2
    obtain ⟨M, hM, hT⟩ := InvT.cut h k z
    have hc : tellP yc.rd = (x.lb.life, true, M) := by rw [huc.rd, ycS, ycL, List.append_nil, ec]; exact hT
    have ho : (tellP yo.rd).2.1 = true → (tellP yo.rd).1 < x.lb.life ∨ ((tellP yo.rd).1 = x.lb.life + 1 ∧ (tellP yo.rd).2.2 = x.lb.L) := by
      rw [huo.rd, yoS, yoL, List.append_nil, eo]
      intro hs
      rcases h.ot k' z' (by rw [eo] at hkz'; exact hkz') hs with h2 | ⟨_, h2, h3⟩
      · exact .inl h2
      · exact .inr ⟨h2, h3⟩
    have honle : on ≤ 1 := by rcases harr with ⟨e, _⟩ | ⟨e, _⟩ <;> omega
    have hold : ∀ {y : Sd} {lf : Nat} {N : List NV}, Up y → y.L = [] → tellP y.rd = (lf, true, N) → ∀ k z, k + z ≤ y.L.length → (tellP (y.S ++ y.L.take k ++ List.replicate z 0)).1 < lf + 1 := by
      intro y lf N hu hL ht k z hkz
      rw [hu.rd, hL, List.append_nil] at ht
      rw [hL] at hkz ⊢
      simp only [List.length_nil] at hkz
      have hk0 : k = 0 := by omega
      have hz0 : z = 0 := by omega
      rw [hk0, hz0]
      simp only [List.take_zero, List.append_nil, List.replicate_zero]
      rw [ht]; exact Nat.lt_succ_self _
    rcases found_two harr h.l0 hc ho with hf | ⟨hf, ht⟩
    · have hsel : (if on = 0 then y0 else y1) = yc := by rcases harr with ⟨e, e1, _⟩ | ⟨e, e1, _⟩ <;> simp [e, e1]
      obtain ⟨a1, a2, _, _, a5⟩ := open_found (k := i + 1) u0 u1 in0 in1 hf honle h.l0 (by omega) (by omega) ((h.mg M hM).up (by omega)) (by rw [hsel]; exact hold huc ycL hc)
      refine ⟨a1, ⟨M, hM, by rw [a2]⟩, by rw [a2]; exact Nat.le_add_left _ _, by rw [a2]; exact a5⟩
    · have hsel : (if 1 - on = 0 then y0 else y1) = yo := by rcases harr with ⟨e, _, e1⟩ | ⟨e, _, e1⟩ <;> simp [e, e1]
      obtain ⟨a1, a2, _, _, a5⟩ := open_found (k := i + 1) u0 u1 in0 in1 hf (by omega) (by omega) (by omega) (by omega) (h.gl.up (by omega)) (by rw [hsel]; exact hold huo yoL ht)
      refine ⟨a1, ⟨_, h.mm, by rw [a2]⟩, by rw [a2]; exact Nat.le_add_left _ _, by rw [a2]; exact a5⟩
  by_cases hx : x.lb.on = 0
  · have e1 : x.s0 = x.cur := by unfold Lg.cur; rw [if_pos hx]
    have e2 : x.s1 = x.oth := by unfold Lg.oth; rw [if_pos hx]
    exact main hx.symm e1 e2 rfl rfl (.inl ⟨rfl, rfl, rfl⟩) ((e1 ▸ hci.crs _ _).mono (by omega)) ((e2 ▸ hoi.crs _ _).mono (by omega)) (Up.crs _ _ _) (Up.crs _ _ _)
  · have hx1 : x.lb.on = 1 := by have := h.on; omega
    have e1 : x.s1 = x.cur := by unfold Lg.cur; rw [if_neg hx]
    have e2 : x.s0 = x.oth := by unfold Lg.oth; rw [if_neg hx]
    exact main hx1.symm e1 e2 rfl rfl (.inr ⟨rfl, rfl, rfl⟩) ((e2 ▸ hoi.crs _ _).mono (by omega)) ((e1 ▸ hci.crs _ _).mono (by omega)) (Up.crs _ _ _) (Up.crs _ _ _)
/-- A logbook without a fault. -/
structure Fine (x : Lg) : Prop where
  u0 : Up x.s0
  u1 : Up x.s1
  d : x.lb.dead = 0
theorem Fine.cur (h : Fine x) : Up x.cur := by unfold Lg.cur; split; exact h.u0; exact h.u1
theorem Fine.oth (h : Fine x) : Up x.oth := by unfold Lg.oth; split; exact h.u1; exact h.u0
theorem fine_onCur (h : Fine x) {s : Sd} (hs : Up s) {lb : Lb} (hd : lb.dead = 0) : Fine (x.onCur s lb) := by
  refine ⟨?_, ?_, by rw [onCur_lb]; exact hd⟩
  · unfold Lg.onCur; split; exact hs; exact h.u0
  · unfold Lg.onCur; split; exact h.u1; exact hs
theorem fine_onOth (h : Fine x) {s : Sd} (hs : Up s) {lb : Lb} (hd : lb.dead = 0) : Fine (x.onOth s lb) := by
  refine ⟨?_, ?_, by rw [onOth_lb]; exact hd⟩
  · unfold Lg.onOth; split; exact h.u0; exact hs
  · unfold Lg.onOth; split; exact hs; exact h.u1
theorem fine_put (h : Fine x) (hv : Inv x may i) (hi : i ≤ 55) {n v : Bs} (hn : n.length ≤ 255) (hl : v.length ≤ 4096) : (putT x n v).1 = 0 ∧ (putT x n v).2.lb = ⟨x.lb.on, x.lb.life, putN x.lb.L (n, v), 0⟩ ∧ Fine (putT x n v).2 := by
  have hsz := hv.sz
  obtain ⟨a1, a2, _, _⟩ := h.cur.app (P := recP 2 n v) (by rw [recP_len]; omega)
  unfold putT
  rw [if_neg (by rw [h.d]; simp), if_neg (by omega)]
  refine ⟨a1, ?_, ?_⟩
  · rw [onCur_lb, a1, if_pos rfl, h.d]; rfl
  · exact fine_onCur h a2 (by rw [a1, h.d]; rfl)
theorem fine_big (h : Fine x) {n v : Bs} (hn : 255 < n.length ∨ 4096 < v.length) : (putT x n v).1 = 8 ∧ (putT x n v).2 = x := by
  unfold putT
  rw [if_neg (by rw [h.d]; simp), if_pos hn]
  exact ⟨rfl, rfl⟩
theorem fine_drop (h : Fine x) (hv : Inv x may i) (hi : i ≤ 55) {n v : Bs} (hg : getN x.lb.L n = some v) : (dropT x n).1 = 0 ∧ (dropT x n).2.lb = ⟨x.lb.on, x.lb.life, delN x.lb.L n, 0⟩ ∧ Fine (dropT x n).2 := by
  have hsz := hv.sz
  have hn : n.length ≤ 255 := hv.gl.nm (n, v) ((find_mem (rises_nodup hv.gl.ri)).1 hg)
  obtain ⟨a1, a2, _, _⟩ := h.cur.app (P := recP 3 n []) (by rw [recP_len]; simp; omega)
  unfold dropT
  rw [if_neg (by rw [h.d]; simp), if_neg (by rw [hg]; exact nofun)]
  refine ⟨a1, ?_, ?_⟩
  · rw [onCur_lb, a1, if_pos rfl, h.d]; rfl
  · exact fine_onCur h a2 (by rw [a1, h.d]; rfl)
theorem fine_none (h : Fine x) {n : Bs} (hg : getN x.lb.L n = none) : (dropT x n).1 = 6 ∧ (dropT x n).2 = x := by
  unfold dropT
  rw [if_neg (by rw [h.d]; simp), if_pos hg]
  exact ⟨rfl, rfl⟩
theorem fine_sync (h : Fine x) : (syncT x).1 = 0 ∧ (syncT x).2.lb = ⟨x.lb.on, x.lb.life, x.lb.L, 0⟩ ∧ Fine (syncT x).2 := by
  unfold syncT
  rw [if_neg (by rw [h.d]; simp)]
  refine ⟨h.cur.stepE, ?_, ?_⟩
  · rw [onCur_lb, h.cur.stepE, h.d]; rfl
  · exact fine_onCur h (h.cur.stepped _ _).1 (by rw [h.cur.stepE, h.d]; rfl)
theorem fine_comp (h : Fine x) (hv : Inv x may i) (hi : i ≤ 55) : (compT x).1 = 0 ∧ (compT x).2.lb = ⟨1 - x.lb.on, x.lb.life + 1, x.lb.L, 0⟩ ∧ Fine (compT x).2 := by
  have hlf := hv.lf
  have hall := hv.gl.all (x.lb.life + 1)
  obtain ⟨s', e, a1, _, _⟩ := comp_fresh h.d (by omega) h.oth (by omega)
  rw [e]
  exact ⟨rfl, onOth_lb, fine_onOth h a1 rfl⟩
/-- Opened again, without a crash. -/
theorem fine_open (h : Fine x) (hv : Inv x may i) (hi : i ≤ 55) : (openT x.s0 x.s1).1 = 0 ∧ (openT x.s0 x.s1).2.lb = ⟨1 - x.lb.on, x.lb.life + 1, x.lb.L, 0⟩ ∧ Fine (openT x.s0 x.s1).2 ∧ Inv (openT x.s0 x.s1).2 [x.lb.L] (i + 1) := by
  have hlf := hv.lf
  have hc : tellP x.cur.rd = (x.lb.life, true, x.lb.L) := by rw [h.cur.rd]; exact hv.tc.whole
  have ho : (tellP x.oth.rd).2.1 = true → (tellP x.oth.rd).1 < x.lb.life ∨ ((tellP x.oth.rd).1 = x.lb.life + 1 ∧ (tellP x.oth.rd).2.2 = x.lb.L) := by
    rw [h.oth.rd]
    intro hs
    have h1 := hv.ot x.oth.L.length 0 (by omega)
    simp only [List.take_length, List.replicate_zero, List.append_nil] at h1
    rcases h1 hs with h2 | ⟨h2, _⟩
    · exact .inl h2
    · exact absurd h.d h2
  have harr : (x.lb.on = 0 ∧ x.cur = x.s0 ∧ x.oth = x.s1) ∨ (x.lb.on = 1 ∧ x.cur = x.s1 ∧ x.oth = x.s0) := by
    unfold Lg.cur Lg.oth
    by_cases hx : x.lb.on = 0
    · exact .inl ⟨hx, by rw [if_pos hx], by rw [if_pos hx]⟩
    · exact .inr ⟨by have := hv.on; omega, by rw [if_neg hx], by rw [if_neg hx]⟩
  have hf : foundT x.s0 x.s1 = ⟨x.lb.on, x.lb.life, x.lb.L, 0⟩ := by
    rcases found_two (M' := x.lb.L) harr hv.l0 hc ho with hf | ⟨_, ht⟩
    · exact hf
    · exfalso
      have h1 := hv.ot x.oth.L.length 0 (by omega)
      simp only [List.take_length, List.replicate_zero, List.append_nil] at h1
      rw [← h.oth.rd, ht] at h1
      rcases h1 rfl with h2 | ⟨h2, _⟩
      · exact absurd h2 (by simp)
      · exact absurd h.d h2
  have hsel : (if x.lb.on = 0 then x.s0 else x.s1) = x.cur := rfl
  have hci := hv.ci
  have hoi := hv.oi
  have i0 : x.s0.In (3 * ((i + 1 : Nat) : Int)) := by
    rcases harr with ⟨_, e1, _⟩ | ⟨_, _, e2⟩
    · rw [e1] at hci; exact hci.mono (by omega)
    · rw [e2] at hoi; exact hoi.mono (by omega)
  have i1 : x.s1.In (3 * ((i + 1 : Nat) : Int)) := by
    rcases harr with ⟨_, _, e2⟩ | ⟨_, e1, _⟩
    · rw [e2] at hoi; exact hoi.mono (by omega)
    · rw [e1] at hci; exact hci.mono (by omega)
  obtain ⟨a1, a2, a3, a4, a5⟩ := open_found (k := i + 1) h.u0 h.u1 i0 i1 hf hv.on hv.l0 (by omega) (by omega) (hv.gl.up (by omega)) (by
    rw [hsel]
    intro k z hkz
    obtain ⟨M, _, hM⟩ := InvT.cut hv k z
    rw [hM]; exact Nat.lt_succ_self _)
  exact ⟨a1, a2, ⟨a3, a4, by rw [a2]⟩, a5⟩
end
end Go.Proofs.Ytidcdfilfccigaa
