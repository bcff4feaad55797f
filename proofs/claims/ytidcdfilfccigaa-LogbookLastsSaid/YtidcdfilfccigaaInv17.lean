/- Plain: what holds behind each step of a logbook on two slabs, whatever power fails. -/
import Derived.Test.YtidcdfilfccigaaLgQ17
namespace Go.Proofs.Ytidcdfilfccigaa
set_option linter.unusedVariables false
set_option linter.unusedSimpArgs false
set_option linter.unnecessarySimpa false
open Go Go.RowKit

/-- Entries behind at most i steps. -/
structure GoodL (M : List NV) (i : Nat) : Prop where
  ri : Rises M
  nm : ∀ x ∈ M, x.1.length ≤ 255
  vl : ∀ x ∈ M, x.2.length ≤ 4096
  ct : M.length ≤ i
theorem GoodL.up {M : List NV} {i k : Nat} (h : GoodL M i) (hk : i ≤ k) : GoodL M k := ⟨h.ri, h.nm, h.vl, Nat.le_trans h.ct hk⟩
theorem GoodL.put {M : List NV} {i : Nat} (h : GoodL M i) {n v : Bs} (hn : n.length ≤ 255) (hv : v.length ≤ 4096) : GoodL (putN M (n, v)) (i + 1) :=
  ⟨put_rises h.ri _, fun y hy => by rcases put_mem hy with rfl | hy; exact hn; exact h.nm y hy, fun y hy => by rcases put_mem hy with rfl | hy; exact hv; exact h.vl y hy, by have := put_len M (n, v); have := h.ct; omega⟩
theorem GoodL.del {M : List NV} {i : Nat} (h : GoodL M i) (n : Bs) : GoodL (delN M n) i :=
  ⟨del_rises h.ri _, fun y hy => h.nm y (del_mem hy), fun y hy => h.vl y (del_mem hy), by have := del_len M n; have := h.ct; omega⟩
theorem GoodL.big {M : List NV} {i : Nat} (h : GoodL M i) : ∀ x ∈ M, x.2.length ≤ 262144 := fun x hx => by have := h.vl x hx; omega
theorem ents_small {M : List NV} (h1 : ∀ x ∈ M, x.1.length ≤ 255) (h2 : ∀ x ∈ M, x.2.length ≤ 4096) : (entsP M).length ≤ 4358 * M.length := by
  unfold entsP
  induction M with
  | nil => simp
  | cons x M ih =>
    have h3 := h1 x (List.mem_cons_self ..)
    have h4 := h2 x (List.mem_cons_self ..)
    have h5 := ih (fun y hy => h1 y (List.mem_cons_of_mem _ hy)) (fun y hy => h2 y (List.mem_cons_of_mem _ hy))
    rw [List.flatMap_cons, List.length_append, recP_len, List.length_cons]
    omega
theorem GoodL.all {M : List NV} {i : Nat} (h : GoodL M i) (life : Nat) : (allP life M).length ≤ 18 + 4358 * i := by
  have h1 := ents_small h.nm h.vl
  have h2 := h.ct
  have h3 : 4358 * M.length ≤ 4358 * i := Nat.mul_le_mul_left _ h2
  unfold allP
  rw [List.length_append, List.length_append, recP_len, recP_len, be4_len]
  simp only [List.length_nil]
  omega
/-- A logbook, its slab, the other one; what it may be behind a crash; behind i steps. -/
structure InvT (lb : Lb) (c o : Sd) (may : List (List NV)) (i : Nat) : Prop where
  on : lb.on ≤ 1
  l0 : 1 ≤ lb.life
  lf : lb.life ≤ 1 + 2 * i
  sz : c.S.length + c.L.length ≤ 18 + 4358 * i
  gl : GoodL lb.L i
  mg : ∀ M ∈ may, GoodL M i
  mm : lb.L ∈ may
  tc : Tells (c.S ++ c.L) lb.life lb.L
  rs : ∃ rs : List Bs, (∀ r ∈ rs, IsRec r) ∧ c.L = rs.flatten ∧ ∀ j, j ≤ rs.length → ∃ M ∈ may, Tells (c.S ++ (rs.take j).flatten) lb.life M
  ot : ∀ k z, k + z ≤ o.L.length → (tellP (o.S ++ o.L.take k ++ List.replicate z 0)).2.1 = true → (tellP (o.S ++ o.L.take k ++ List.replicate z 0)).1 < lb.life ∨ (¬ lb.dead = 0 ∧ (tellP (o.S ++ o.L.take k ++ List.replicate z 0)).1 = lb.life + 1 ∧ (tellP (o.S ++ o.L.take k ++ List.replicate z 0)).2.2 = lb.L)
  ci : c.In (3 * i + 3)
  oi : o.In (3 * i + 3)
section
variable {lb : Lb} {c o : Sd} {may : List (List NV)} {i : Nat}
theorem InvT.up (h : InvT lb c o may i) : InvT lb c o may (i + 1) :=
  ⟨h.on, h.l0, by have := h.lf; omega, by have := h.sz; omega, h.gl.up (by omega), fun M hM => (h.mg M hM).up (by omega), h.mm, h.tc, h.rs, h.ot, h.ci.mono (by omega), h.oi.mono (by omega)⟩
theorem InvT.lbok (h : InvT lb c o may i) (hi : i ≤ 1000) : LbOk lb i := ⟨h.on, by have := h.lf; omega, h.gl.ri, h.gl.nm, h.gl.big, h.gl.ct⟩
/-- One of its slabs' fuse is set, or its power goes. -/
theorem InvT.same {c' o' : Sd} {d : Int} (h : InvT lb c o may i) (c1 : c'.S = c.S) (c2 : c'.L = c.L) (o1 : o'.S = o.S) (o2 : o'.L = o.L) (hc : c'.In (3 * i + 6)) (ho : o'.In (3 * i + 6)) (hd : lb.dead = 0 ∨ ¬ d = 0) : InvT ⟨lb.on, lb.life, lb.L, d⟩ c' o' may (i + 1) := by
  have h1 := h.up
  refine ⟨h1.on, h1.l0, h1.lf, by rw [c1, c2]; exact h1.sz, h1.gl, h1.mg, h1.mm, by rw [c1, c2]; exact h1.tc, by rw [c1, c2]; exact h1.rs, ?_, hc, ho⟩
  rw [o1, o2]
  intro k z hkz hs
  rcases h1.ot k z hkz hs with h2 | ⟨h2, h3, h4⟩
  · exact .inl h2
  · rcases hd with hd | hd
    · exact absurd hd h2
    · exact .inr ⟨hd, h3, h4⟩
/-- What comes of an append. -/
theorem app_cases {P : Bs} {n : Int} (hc : c.In n) (hs : c.S.length + c.L.length + P.length ≤ 262144) : (c.appE P.length = 0 ∧ (c.app P).S = c.S ∧ (c.app P).L = c.L ++ P) ∨ (¬ c.appE P.length = 0 ∧ (c.app P).S = c.S ∧ (c.app P).L = c.L) := by
  have hn : ¬ 262144 < c.S.length + c.L.length + P.length := by omega
  cases hd : c.down
  · by_cases hf : c.fuse = 0
    · exact .inr ⟨by simp [Sd.appE, Sd.stepE, hd, hf, hn], by simp [Sd.app, Sd.stepped, hd, hf, hn], by simp [Sd.app, Sd.stepped, hd, hf, hn]⟩
    · exact .inl ⟨by simp [Sd.appE, Sd.stepE, hd, hf, hn], by simp [Sd.app, Sd.stepped, hd, hf, hn], by simp [Sd.app, Sd.stepped, hd, hf, hn]⟩
  · exact .inr ⟨by simp [Sd.appE, hd], by simp [Sd.app, hd], by simp [Sd.app, hd]⟩
theorem stepped_cases {S L : Bs} : (c.stepE = 0 ∧ (c.stepped S L).S = S ∧ (c.stepped S L).L = L) ∨ (¬ c.stepE = 0 ∧ (c.stepped S L).S = c.S ∧ (c.stepped S L).L = c.L) := by
  cases hd : c.down
  · by_cases hf : c.fuse = 0
    · exact .inr ⟨by simp [Sd.stepE, hd, hf], by simp [Sd.stepped, hd, hf], by simp [Sd.stepped, hd, hf]⟩
    · exact .inl ⟨by simp [Sd.stepE, hd, hf], by simp [Sd.stepped, hd, hf], by simp [Sd.stepped, hd, hf]⟩
  · exact .inr ⟨by simp [Sd.stepE, hd], by simp [Sd.stepped, hd], by simp [Sd.stepped, hd]⟩
/-- A record more. -/
theorem InvT.more {c' : Sd} {L' : List NV} {P : Bs} {d : Int} (h : InvT lb c o may i) (hP : IsRec P) (hl : P.length ≤ 4358) (c1 : c'.S = c.S) (c2 : c'.L = c.L ++ P) (hc : c'.In (3 * i + 6)) (hg : GoodL L' (i + 1)) (ht : Tells (c.S ++ c.L ++ P) lb.life L') (h0 : lb.dead = 0) : InvT ⟨lb.on, lb.life, L', d⟩ c' o (may ++ [L']) (i + 1) := by
  have h1 := h.up
  refine ⟨h1.on, h1.l0, h1.lf, by rw [c1, c2, List.length_append]; have := h.sz; omega, hg, fun M hM => ?_, by simp, by rw [c1, c2, ← List.append_assoc]; exact ht, ?_, ?_, hc, h.oi.mono (by omega)⟩
  · rcases List.mem_append.1 hM with hM | hM
    · exact h1.mg M hM
    · simp at hM; subst hM; exact hg
  · obtain ⟨rs, r1, r2, r3⟩ := h.rs
    refine ⟨rs ++ [P], fun r hr => ?_, by rw [c2, r2]; simp, fun j hj => ?_⟩
    · rcases List.mem_append.1 hr with hr | hr
      · exact r1 r hr
      · simp at hr; subst hr; exact hP
    · by_cases hj2 : j ≤ rs.length
      · obtain ⟨M, hM, hT⟩ := r3 j hj2
        refine ⟨M, List.mem_append_left _ hM, ?_⟩
        rw [c1, List.take_append_of_le_length hj2]
        exact hT
      · have hje : j = rs.length + 1 := by simp at hj; omega
        refine ⟨L', by simp, ?_⟩
        rw [c1, List.take_of_length_le (by simp; omega)]
        simp only [List.flatten_append, List.flatten_cons, List.flatten_nil, List.append_nil]
        rw [← List.append_assoc, ← r2]
        exact ht
  · intro k z hkz hs
    rcases h1.ot k z hkz hs with h2 | ⟨h2, _⟩
    · exact .inl h2
    · exact absurd h0 h2
/-- All that is there lasts. -/
theorem InvT.synced {c' : Sd} {d : Int} (h : InvT lb c o may i) (c1 : c'.S = c.S ++ c.L) (c2 : c'.L = []) (hc : c'.In (3 * i + 6)) (h0 : lb.dead = 0) : InvT ⟨lb.on, lb.life, lb.L, d⟩ c' o [lb.L] (i + 1) := by
  have h1 := h.up
  refine ⟨h1.on, h1.l0, h1.lf, by rw [c1, c2, List.length_append]; simpa using h1.sz, h1.gl, fun M hM => by simp at hM; subst hM; exact h1.gl, by simp, by rw [c1, c2, List.append_nil]; exact h1.tc, ?_, ?_, hc, h1.oi⟩
  · refine ⟨[], nofun, by rw [c2]; rfl, fun j hj => ⟨lb.L, by simp, ?_⟩⟩
    rw [c1]
    simp only [List.take_nil, List.flatten_nil, List.append_nil]
    exact h1.tc
  · intro k z hkz hs
    rcases h1.ot k z hkz hs with h2 | ⟨h2, _⟩
    · exact .inl h2
    · exact absurd h0 h2
/-- What a crash leaves on the logbook's slab. -/
theorem InvT.cut (h : InvT lb c o may i) (k z : Nat) : ∃ M ∈ may, tellP (c.S ++ c.L.take k ++ List.replicate z 0) = (lb.life, true, M) := by
  obtain ⟨rs, r1, r2, r3⟩ := h.rs
  obtain ⟨j, t, hj, e, hn, _⟩ := cut_recs rs k r1
  obtain ⟨M, hM, hT⟩ := r3 j hj
  refine ⟨M, hM, ?_⟩
  rw [r2, e, show c.S ++ ((rs.take j).flatten ++ t) ++ List.replicate z 0 = (c.S ++ (rs.take j).flatten) ++ (t ++ List.replicate z 0) from by simp]
  exact hT.torn (hn z)
/-- A new life. -/
theorem inv_new {life on k : Nat} {M : List NV} {c' o' : Sd} (hon : on ≤ 1) (hg : GoodL M k) (h1 : 1 ≤ life) (hl : life ≤ 1 + 2 * k) (hk : k ≤ 1000) (c1 : c'.S = allP life M) (c2 : c'.L = []) (hc : c'.In (3 * k + 3)) (ho : o'.In (3 * k + 3)) (hoth : ∀ k z, k + z ≤ o'.L.length → (tellP (o'.S ++ o'.L.take k ++ List.replicate z 0)).1 < life) : InvT ⟨on, life, M, 0⟩ c' o' [M] k := by
  have ht : Tells (allP life M) life M := all_tells (by omega) hg.ri hg.nm hg.big
  refine ⟨hon, h1, hl, by rw [c1, c2]; simpa using hg.all life, hg, fun N hN => by simp at hN; subst hN; exact hg, by simp, by rw [c1, c2, List.append_nil]; exact ht, ⟨[], nofun, by rw [c2]; rfl, fun j hj => ⟨M, by simp, ?_⟩⟩, fun k z hkz _ => .inl (hoth k z hkz), hc, ho⟩
  rw [c1]
  simp only [List.take_nil, List.flatten_nil, List.append_nil]
  exact ht
/-- A new life that isn't finished. -/
theorem InvT.tried {o' : Sd} {d : Int} (h : InvT lb c o may i) (hi : i ≤ 1000) (h0 : lb.dead = 0) (hd : ¬ d = 0) (ho : o'.In (3 * i + 6)) (hcase : (o'.S = [] ∧ o'.L = []) ∨ (o'.S = [] ∧ o'.L = allP (lb.life + 1) lb.L)) : InvT ⟨lb.on, lb.life, lb.L, d⟩ c o' may (i + 1) := by
  have h1 := h.up
  refine ⟨h1.on, h1.l0, h1.lf, h1.sz, h1.gl, h1.mg, h1.mm, h1.tc, h1.rs, ?_, h1.ci, ho⟩
  intro k z hkz hs
  rcases hcase with ⟨e1, e2⟩ | ⟨e1, e2⟩
  · rw [e2] at hkz
    rw [e1, e2] at hs
    simp at hkz
    rw [hkz.1, hkz.2] at hs
    exact absurd hs (by decide)
  · rw [e1, e2, List.nil_append, ← allRs_flat] at hs ⊢
    have hlf := h.lf
    obtain ⟨j, t, hj, e, hn, he⟩ := cut_recs (allRs (lb.life + 1) lb.L) k (allRs_recs h.gl.nm h.gl.big)
    rw [e, List.append_assoc] at hs ⊢
    by_cases hjl : j < (allRs (lb.life + 1) lb.L).length
    · rw [torn_unsealed (by omega) h.gl.ri h.gl.nm h.gl.big hjl (hn z)] at hs
      cases hs
    · have hje : j = (allRs (lb.life + 1) lb.L).length := by omega
      rw [hje, List.take_length, allRs_flat]
      have ht : Tells (allP (lb.life + 1) lb.L) (lb.life + 1) lb.L := all_tells (by omega) h.gl.ri h.gl.nm h.gl.big
      rw [ht.torn (hn z)]
      exact .inr ⟨hd, rfl, rfl⟩
end
/-- The same of a logbook with its slabs. -/
def Inv (x : Lg) (may : List (List NV)) (i : Nat) : Prop := InvT x.lb x.cur x.oth may i
theorem cur_onCur {x : Lg} {s : Sd} {lb : Lb} (h : lb.on = x.lb.on) : (x.onCur s lb).cur = s ∧ (x.onCur s lb).oth = x.oth := by
  unfold Lg.onCur Lg.cur Lg.oth
  split
  · rename_i h1; simp [h, h1]
  · rename_i h1; simp [h, h1]
theorem cur_onOth {x : Lg} {s : Sd} {lb : Lb} (h : lb.on = x.lb.on) : (x.onOth s lb).cur = x.cur ∧ (x.onOth s lb).oth = s := by
  unfold Lg.onOth Lg.cur Lg.oth
  split
  · rename_i h1; simp [h, h1]
  · rename_i h1; simp [h, h1]
theorem cur_flip {x : Lg} {s : Sd} {lb : Lb} (hx : x.lb.on ≤ 1) (h : lb.on = 1 - x.lb.on) : (x.onOth s lb).cur = s ∧ (x.onOth s lb).oth = x.cur := by
  unfold Lg.onOth Lg.cur Lg.oth
  split
  · rename_i h1; simp [h, h1]
  · rename_i h1; have : x.lb.on = 1 := by omega
    simp [h, this]
section
variable {x : Lg} {may : List (List NV)} {i : Nat}
theorem inv_put (h : Inv x may i) (hi : i ≤ 55) (n v : Bs) : Inv (putT x n v).2 (may ++ [(putT x n v).2.lb.L]) (i + 1) ∧ (¬ (putT x n v).1 = 0 → (putT x n v).2.lb.L = x.lb.L) := by
  have mono : ∀ {y : Lg}, Inv y may (i + 1) → Inv y (may ++ [y.lb.L]) (i + 1) := fun {y} hy =>
    ⟨hy.on, hy.l0, hy.lf, hy.sz, hy.gl, fun M hM => by rcases List.mem_append.1 hM with hM | hM; exact hy.mg M hM; simp at hM; subst hM; exact hy.gl, by simp, hy.tc, by obtain ⟨rs, r1, r2, r3⟩ := hy.rs; exact ⟨rs, r1, r2, fun j hj => by obtain ⟨M, hM, hT⟩ := r3 j hj; exact ⟨M, List.mem_append_left _ hM, hT⟩⟩, hy.ot, hy.ci, hy.oi⟩
  unfold putT
  split
  · exact ⟨mono h.up, fun _ => rfl⟩
  · rename_i h0
    have h0' : x.lb.dead = 0 := Decidable.not_not.1 h0
    split
    · exact ⟨mono h.up, fun _ => rfl⟩
    · rename_i h2
      have hsz := h.sz
      have hrl := recP_len 2 n v
      have hci := h.ci.app (recP 2 n v)
      rcases app_cases (P := recP 2 n v) h.ci (by omega) with ⟨e1, e2, e3⟩ | ⟨e1, e2, e3⟩
      · rw [if_pos e1]
        obtain ⟨a1, a2⟩ := cur_onCur (x := x) (s := x.cur.app (recP 2 n v)) (lb := ⟨x.lb.on, x.lb.life, putN x.lb.L (n, v), failD x.lb.dead (x.cur.appE (recP 2 n v).length)⟩) rfl
        refine ⟨?_, fun h9 => absurd e1 h9⟩
        unfold Inv
        rw [a1, a2, onCur_lb]
        exact InvT.more h ⟨2, n, v, rfl, by omega, by omega⟩ (by omega) e2 e3 (hci.mono (by omega)) (h.gl.put (by omega) (by omega)) (h.tc.put (by omega) (by omega)) h0'
      · rw [if_neg e1]
        obtain ⟨a1, a2⟩ := cur_onCur (x := x) (s := x.cur.app (recP 2 n v)) (lb := ⟨x.lb.on, x.lb.life, x.lb.L, failD x.lb.dead (x.cur.appE (recP 2 n v).length)⟩) rfl
        have key : Inv (x.onCur (x.cur.app (recP 2 n v)) ⟨x.lb.on, x.lb.life, x.lb.L, failD x.lb.dead (x.cur.appE (recP 2 n v).length)⟩) may (i + 1) := by
          unfold Inv
          rw [a1, a2, onCur_lb]
          exact InvT.same h e2 e3 rfl rfl (hci.mono (by omega)) (h.oi.mono (by omega)) (.inl h0')
        exact ⟨mono key, fun _ => by rw [onCur_lb]⟩
theorem inv_drop (h : Inv x may i) (hi : i ≤ 55) (n : Bs) : Inv (dropT x n).2 (may ++ [(dropT x n).2.lb.L]) (i + 1) := by
  have mono : ∀ {y : Lg}, Inv y may (i + 1) → Inv y (may ++ [y.lb.L]) (i + 1) := fun {y} hy =>
    ⟨hy.on, hy.l0, hy.lf, hy.sz, hy.gl, fun M hM => by rcases List.mem_append.1 hM with hM | hM; exact hy.mg M hM; simp at hM; subst hM; exact hy.gl, by simp, hy.tc, by obtain ⟨rs, r1, r2, r3⟩ := hy.rs; exact ⟨rs, r1, r2, fun j hj => by obtain ⟨M, hM, hT⟩ := r3 j hj; exact ⟨M, List.mem_append_left _ hM, hT⟩⟩, hy.ot, hy.ci, hy.oi⟩
  unfold dropT
  split
  · exact mono h.up
  · rename_i h0
    have h0' : x.lb.dead = 0 := Decidable.not_not.1 h0
    split
    · exact mono h.up
    · rename_i h2
      have hn : n.length ≤ 255 := by
        cases hg : getN x.lb.L n with
        | none => exact absurd hg h2
        | some v => exact h.gl.nm (n, v) ((find_mem (rises_nodup h.gl.ri)).1 hg)
      have hsz := h.sz
      have hrl := recP_len 3 n []
      rw [List.length_nil] at hrl
      have hci := h.ci.app (recP 3 n [])
      rcases app_cases (P := recP 3 n []) h.ci (by omega) with ⟨e1, e2, e3⟩ | ⟨e1, e2, e3⟩
      · rw [if_pos e1]
        obtain ⟨a1, a2⟩ := cur_onCur (x := x) (s := x.cur.app (recP 3 n [])) (lb := ⟨x.lb.on, x.lb.life, delN x.lb.L n, failD x.lb.dead (x.cur.appE (recP 3 n []).length)⟩) rfl
        unfold Inv
        rw [a1, a2, onCur_lb]
        exact InvT.more h ⟨3, n, [], rfl, by omega, by simp⟩ (by omega) e2 e3 (hci.mono (by omega)) ((h.gl.del n).up (by omega)) (h.tc.del (by omega)) h0'
      · rw [if_neg e1]
        obtain ⟨a1, a2⟩ := cur_onCur (x := x) (s := x.cur.app (recP 3 n [])) (lb := ⟨x.lb.on, x.lb.life, x.lb.L, failD x.lb.dead (x.cur.appE (recP 3 n []).length)⟩) rfl
        have key : Inv (x.onCur (x.cur.app (recP 3 n [])) ⟨x.lb.on, x.lb.life, x.lb.L, failD x.lb.dead (x.cur.appE (recP 3 n []).length)⟩) may (i + 1) := by
          unfold Inv
          rw [a1, a2, onCur_lb]
          exact InvT.same h e2 e3 rfl rfl (hci.mono (by omega)) (h.oi.mono (by omega)) (.inl h0')
        exact mono key
theorem inv_sync (h : Inv x may i) : Inv (syncT x).2 (if (syncT x).1 = 0 then [(syncT x).2.lb.L] else may) (i + 1) := by
  unfold syncT
  split
  · rename_i h0
    simp only [if_neg h0]; exact h.up
  · rename_i h0
    have h0' : x.lb.dead = 0 := Decidable.not_not.1 h0
    have hci := h.ci.syn
    obtain ⟨a1, a2⟩ := cur_onCur (x := x) (s := x.cur.syn) (lb := ⟨x.lb.on, x.lb.life, x.lb.L, failD x.lb.dead x.cur.stepE⟩) rfl
    rcases stepped_cases (c := x.cur) (S := x.cur.S ++ x.cur.L) (L := []) with ⟨e1, e2, e3⟩ | ⟨e1, e2, e3⟩
    · rw [if_pos e1]
      unfold Inv
      rw [a1, a2, onCur_lb]
      exact InvT.synced h e2 e3 (hci.mono (by omega)) h0'
    · rw [if_neg e1]
      unfold Inv
      rw [a1, a2, onCur_lb]
      exact InvT.same h e2 e3 rfl rfl (hci.mono (by omega)) (h.oi.mono (by omega)) (.inl h0')
theorem ne_fail {d e : Int} (h : ¬ e = 0) : failD d e = e := if_neg h
theorem inv_comp (h : Inv x may i) (hi : i ≤ 55) : Inv (compT x).2 (if (compT x).1 = 0 then [(compT x).2.lb.L] else may) (i + 1) := by
  unfold compT
  split
  · rename_i h0
    simp only [if_neg h0]; exact h.up
  · rename_i h0
    have h0' : x.lb.dead = 0 := Decidable.not_not.1 h0
    have hlf := h.lf
    rw [if_neg (by omega)]
    have hall := h.gl.all (x.lb.life + 1)
    have hoi := h.oi
    rcases stepped_cases (c := x.oth) (S := []) (L := []) with ⟨e1, e2, e3⟩ | ⟨e1, e2, e3⟩
    · rw [if_neg (by rw [e1]; simp)]
      have e2' : x.oth.ers.S = [] := e2
      have e3' : x.oth.ers.L = [] := e3
      have hai : x.oth.ers.In (3 * i + 3 + 1) := hoi.ers
      rcases app_cases (P := allP (x.lb.life + 1) x.lb.L) hai (by rw [e2', e3']; simp; omega) with ⟨f1, f2, f3⟩ | ⟨f1, f2, f3⟩
      · rw [if_neg (by rw [f1]; simp)]
        have hbi := hai.app (allP (x.lb.life + 1) x.lb.L)
        rcases stepped_cases (c := x.oth.ers.app (allP (x.lb.life + 1) x.lb.L)) (S := (x.oth.ers.app (allP (x.lb.life + 1) x.lb.L)).S ++ (x.oth.ers.app (allP (x.lb.life + 1) x.lb.L)).L) (L := []) with ⟨g1, g2, g3⟩ | ⟨g1, g2, g3⟩
        · rw [if_neg (by rw [g1]; simp), if_pos rfl]
          obtain ⟨a1, a2⟩ := cur_flip (x := x) (s := (x.oth.ers.app (allP (x.lb.life + 1) x.lb.L)).syn) (lb := ⟨1 - x.lb.on, x.lb.life + 1, x.lb.L, x.lb.dead⟩) h.on rfl
          unfold Inv
          rw [a1, a2, onOth_lb, h0']
          have := inv_new (k := i + 1) (on := 1 - x.lb.on) (c' := (x.oth.ers.app (allP (x.lb.life + 1) x.lb.L)).syn) (o' := x.cur) (life := x.lb.life + 1) (by omega) (h.gl.up (by omega)) (by omega) (by omega) (by omega) (g2.trans (by rw [f2, f3, e2', e3']; rfl)) g3 (hbi.syn.mono (by omega)) (h.ci.mono (by omega)) (fun k z _ => by
            obtain ⟨M, _, hM⟩ := InvT.cut h k z
            rw [hM]; exact Nat.lt_succ_self _)
          exact this
        · rw [if_pos g1, if_neg g1]
          obtain ⟨a1, a2⟩ := cur_onOth (x := x) (s := (x.oth.ers.app (allP (x.lb.life + 1) x.lb.L)).syn) (lb := ⟨x.lb.on, x.lb.life, x.lb.L, (x.oth.ers.app (allP (x.lb.life + 1) x.lb.L)).stepE⟩) rfl
          unfold Inv
          rw [a1, a2, onOth_lb]
          exact InvT.tried h (by omega) h0' g1 (hbi.syn.mono (by omega)) (.inr ⟨g2.trans (f2.trans e2'), g3.trans (by rw [f3, e3']; rfl)⟩)
      · rw [if_pos f1, if_neg f1]
        obtain ⟨a1, a2⟩ := cur_onOth (x := x) (s := x.oth.ers.app (allP (x.lb.life + 1) x.lb.L)) (lb := ⟨x.lb.on, x.lb.life, x.lb.L, x.oth.ers.appE (allP (x.lb.life + 1) x.lb.L).length⟩) rfl
        unfold Inv
        rw [a1, a2, onOth_lb]
        exact InvT.tried h (by omega) h0' f1 ((hai.app _).mono (by omega)) (.inl ⟨f2.trans e2', f3.trans e3'⟩)
    · rw [if_pos e1, if_neg e1]
      obtain ⟨a1, a2⟩ := cur_onOth (x := x) (s := x.oth.ers) (lb := ⟨x.lb.on, x.lb.life, x.lb.L, x.oth.stepE⟩) rfl
      unfold Inv
      rw [a1, a2, onOth_lb]
      exact InvT.same h rfl rfl e2 e3 (h.ci.mono (by omega)) (hoi.ers.mono (by omega)) (.inl h0')
theorem inv_fuse0 (h : Inv x may i) {n : Int} (hn : n ≤ 9223372036854775807) : Inv ⟨x.lb, x.s0.fus n, x.s1⟩ may (i + 1) := by
  have hd : x.lb.dead = 0 ∨ ¬ x.lb.dead = 0 := Decidable.em _
  have hci := h.ci
  have hoi := h.oi
  by_cases hx : x.lb.on = 0
  · have e1 : x.cur = x.s0 := by unfold Lg.cur; rw [if_pos hx]
    have e2 : x.oth = x.s1 := by unfold Lg.oth; rw [if_pos hx]
    have f1 : Lg.cur ⟨x.lb, x.s0.fus n, x.s1⟩ = x.s0.fus n := by unfold Lg.cur; rw [if_pos hx]
    have f2 : Lg.oth ⟨x.lb, x.s0.fus n, x.s1⟩ = x.s1 := by unfold Lg.oth; rw [if_pos hx]
    unfold Inv
    rw [f1, f2]
    rw [e1] at hci; rw [e2] at hoi
    exact InvT.same h (by rw [e1]; rfl) (by rw [e1]; rfl) (by rw [e2]) (by rw [e2]) ((hci.fus hn).mono (by omega)) (hoi.mono (by omega)) hd
  · have e1 : x.cur = x.s1 := by unfold Lg.cur; rw [if_neg hx]
    have e2 : x.oth = x.s0 := by unfold Lg.oth; rw [if_neg hx]
    have f1 : Lg.cur ⟨x.lb, x.s0.fus n, x.s1⟩ = x.s1 := by unfold Lg.cur; rw [if_neg hx]
    have f2 : Lg.oth ⟨x.lb, x.s0.fus n, x.s1⟩ = x.s0.fus n := by unfold Lg.oth; rw [if_neg hx]
    unfold Inv
    rw [f1, f2]
    rw [e1] at hci; rw [e2] at hoi
    exact InvT.same h (by rw [e1]) (by rw [e1]) (by rw [e2]; rfl) (by rw [e2]; rfl) (hci.mono (by omega)) ((hoi.fus hn).mono (by omega)) hd
theorem inv_fuse1 (h : Inv x may i) {n : Int} (hn : n ≤ 9223372036854775807) : Inv ⟨x.lb, x.s0, x.s1.fus n⟩ may (i + 1) := by
  have hd : x.lb.dead = 0 ∨ ¬ x.lb.dead = 0 := Decidable.em _
  have hci := h.ci
  have hoi := h.oi
  by_cases hx : x.lb.on = 0
  · have e1 : x.cur = x.s0 := by unfold Lg.cur; rw [if_pos hx]
    have e2 : x.oth = x.s1 := by unfold Lg.oth; rw [if_pos hx]
    have f1 : Lg.cur ⟨x.lb, x.s0, x.s1.fus n⟩ = x.s0 := by unfold Lg.cur; rw [if_pos hx]
    have f2 : Lg.oth ⟨x.lb, x.s0, x.s1.fus n⟩ = x.s1.fus n := by unfold Lg.oth; rw [if_pos hx]
    unfold Inv
    rw [f1, f2]
    rw [e1] at hci; rw [e2] at hoi
    exact InvT.same h (by rw [e1]) (by rw [e1]) (by rw [e2]; rfl) (by rw [e2]; rfl) (hci.mono (by omega)) ((hoi.fus hn).mono (by omega)) hd
  · have e1 : x.cur = x.s1 := by unfold Lg.cur; rw [if_neg hx]
    have e2 : x.oth = x.s0 := by unfold Lg.oth; rw [if_neg hx]
    have f1 : Lg.cur ⟨x.lb, x.s0, x.s1.fus n⟩ = x.s1.fus n := by unfold Lg.cur; rw [if_neg hx]
    have f2 : Lg.oth ⟨x.lb, x.s0, x.s1.fus n⟩ = x.s0 := by unfold Lg.oth; rw [if_neg hx]
    unfold Inv
    rw [f1, f2]
    rw [e1] at hci; rw [e2] at hoi
    exact InvT.same h (by rw [e1]; rfl) (by rw [e1]; rfl) (by rw [e2]) (by rw [e2]) ((hci.fus hn).mono (by omega)) (hoi.mono (by omega)) hd
end
end Go.Proofs.Ytidcdfilfccigaa
