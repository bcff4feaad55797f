/- Walk over the program's logbook: what a slab tells. -/
import Derived.Test.YtidcdfilfccigaaLgC17
namespace Go.Proofs.Ytidcdfilfccigaa
set_option linter.unusedVariables false
set_option linter.unusedSimpArgs false
set_option linter.unnecessarySimpa false
open Go Go.RowKit

/-- Bytes that can be read. -/
def rdA (A : Option Addr) (c : Nat) (X : Bs) : Asn where
  sat F w := Recs 1 yC w A c X ∧ X.length ≤ c ∧ InG F A (X.flatMap yC) ∧ ∀ k, F k → k < w.heap.size
  facts _ := True
  stay := by
    rintro F w w' ⟨h1, h2, h3, h4⟩ hk
    refine ⟨h1.mono ?_, h2, h3, fun k hF => ?_⟩
    · intro ad had j u hj
      rw [← h1.src ad had j u hj]
      have hb : (ad.add j).block = ad.block := by unfold Addr.add; split <;> rfl
      refine World.cell?_of_block ?_
      rw [hb]
      exact hk _ (h3 ad had (by rintro h9; rw [h9] at hj; cases hj))
    · have e := hk k hF
      by_cases hlt : k < w'.heap.size
      · exact hlt
      · rw [Array.getElem?_eq_none (Nat.le_of_not_lt hlt), Array.getElem?_eq_getElem (h4 k hF)] at e; cases e
  lt := by rintro F w k ⟨h1, h2, h3, h4⟩ hk; exact h4 k hk
  out := fun _ _ _ => trivial
section
variable {w0 w : World} {l : List Asn} {i : Nat} {A B : Option Addr} {c d : Nat} {X Y : Bs}
theorem Sat.toRd (S : Sat w0 w l) {T : TypeId} (hi : l[i]? = some (row T 1 (.slice A X.length c) X.length (X.flatMap yC))) (hl : X.length ≤ 140737488355328) : Sat w0 w (l.set i (rdA A c X)) := by
  refine S.turn hi fun F hF => ⟨F, ⟨?_, ?_, ?_, ?_⟩, fun _ h => h⟩
  · obtain ⟨rfl, hr⟩ := hF; exact Recs.ofRow hr hl
  · obtain ⟨rfl, hr⟩ := hF; exact own_cap hr
  · obtain ⟨rfl, hr⟩ := hF
    intro ad ha _
    rcases hr.2 with ⟨h1, _⟩ | ⟨g', cap, cur, h1, _⟩
    · injection h1 with h1; rw [ha] at h1; cases h1
    · injection h1 with h1; rw [ha] at h1; cases h1; subst ha; rfl
  · obtain ⟨rfl, hr⟩ := hF; intro k hk; exact (hr.lt k hk).2
theorem Sat.rdOf (S : Sat w0 w l) (hi : l[i]? = some (rdA A c X)) : Recs 1 yC w A c X := by
  obtain ⟨F, h, _⟩ := S.get hi; exact h
theorem Sat.rdCap (S : Sat w0 w l) (hi : l[i]? = some (rdA A c X)) : X.length ≤ c := by
  obtain ⟨F, _, h, _⟩ := S.get hi; exact h
theorem Sat.rdPart (S : Sat w0 w l) (hi : l[i]? = some (rdA A c X)) (hp : PartOf A c X B d Y) : Sat w0 w (l.set i (rdA B d Y)) := by
  refine S.turn hi fun F hF => ⟨F, ⟨hp.recs _ hF.1, hp.cap hF.2.1, ?_, hF.2.2.2⟩, fun _ h => h⟩
  intro b hb hne
  obtain ⟨a, ha, e⟩ := hp.blk b hb
  rw [← e]
  refine hF.2.2.1 a ha fun h9 => hne ?_
  have hx : X = [] := by cases X with
    | nil => rfl
    | cons x X => rw [List.flatMap_cons] at h9; cases h9
  have hy : Y = [] := List.eq_nil_of_length_eq_zero (by have := hp.len; rw [hx] at this; simpa using this)
  rw [hy]; rfl
end
theorem next_cases (X : Bs) : nextP X = none ∨ ∃ k n v q, nextP X = some (k, n, v, q) := by
  cases h : nextP X with
  | none => exact .inl rfl
  | some r => obtain ⟨k, n, v, q⟩ := r; exact .inr ⟨k, n, v, q, rfl⟩
theorem next_none_any (w : World) (Ap : Option Addr) (cp : Nat) (X : Bs) (hX : Recs 1 yC w Ap cp X) (hcx : X.length ≤ cp) (hl : X.length ≤ 1000000) (h : nextP X = none) : Calls Try.prog 61 #[.slice Ap X.length cp] w fun e w' => e = .returned (.tuple #[.int .u8 0, strV [], .slice none 0 0, .slice none 0 0, .bool false]) ∧ Below w.heap.size w w' := by
  refine (next_any w Ap cp X hX hcx hl).mono ?_
  rintro e w' ⟨h1, h2⟩
  unfold NextE at h1
  rw [h] at h1
  exact ⟨h1, h2⟩
theorem next_some_any (w : World) (Ap : Option Addr) (cp : Nat) (X : Bs) (hX : Recs 1 yC w Ap cp X) (hcx : X.length ≤ cp) (hl : X.length ≤ 1000000) {k : UInt8} {n v q : Bs} (h : nextP X = some (k, n, v, q)) : Calls Try.prog 61 #[.slice Ap X.length cp] w fun e w' => ∃ Av cv Aq cq, e = .returned (.tuple #[.int .u8 (k.toNat : Nat), strV n, .slice Av v.length cv, .slice Aq q.length cq, .bool true]) ∧ PartOf Ap cp X Av cv v ∧ PartOf Ap cp X Aq cq q ∧ Below w.heap.size w w' := by
  refine (next_any w Ap cp X hX hcx hl).mono ?_
  rintro e w' ⟨h1, h2⟩
  unfold NextE at h1
  rw [h] at h1
  obtain ⟨Av, cv, Aq, cq, rfl, hp, hq⟩ := h1
  exact ⟨Av, cv, Aq, cq, rfl, hp, hq, h2⟩
theorem of4v_any (w : World) (A : Option Addr) (c : Nat) (X : Bs) (hX : Recs 1 yC w A c X) (h4 : X.length = 4) : Calls Try.prog 62 #[.slice A X.length c] w fun e w' => ∃ b A' c', e = .returned (pt b 0) ∧ Sat w w' [rest w (· < w.heap.size), box b 118 [.slice A' 4 c', .int .i64 0], row 5 1 (.slice A' 4 c') 4 (([X.getD 0 0, X.getD 1 0, X.getD 2 0, X.getD 3 0] : Bs).flatMap yC)] := by
  have h := of4_any w A c X hX (by omega)
  rw [h4]
  exact h
section
variable {fst sl : Bool} {lif : Nat} {LL : List NV} {X n v q : Bs} {k : UInt8} (h : nextP X = some (k, n, v, q))
theorem u8_is {k : UInt8} {j : Nat} (hj : j < 256) (h : (k.toNat : Int) = (j : Nat)) : k = UInt8.ofNat j := UInt8.toNat_inj.1 (by simp; omega)
include h
theorem tg_first_t (h1 : ¬ (k.toNat : Int) = 1) : tellG true (lif, sl, LL) X = (lif, sl, LL) := by
  have hk : ¬ k = 1 := fun e => h1 (by rw [e]; rfl)
  rw [tellG_some h, if_pos (by simp [hk])]
theorem tg_first_f (h1 : (k.toNat : Int) = 1) : tellG false (lif, sl, LL) X = (lif, sl, LL) := by
  have hk : k = 1 := u8_is (j := 1) (by decide) h1
  rw [tellG_some h, if_pos (by simp [hk])]
theorem tg_short (h1 : (k.toNat : Int) = 1) (h2 : ¬ (v.length : Int) = 4) : tellG true (lif, sl, LL) X = (lif, sl, LL) := by
  have hk : k = 1 := u8_is (j := 1) (by decide) h1
  rw [tellG_some h, if_neg (by simp [hk]), if_pos hk, if_pos (by omega)]
theorem tg_begin (h1 : (k.toNat : Int) = 1) (h2 : (v.length : Int) = 4) : tellG true (lif, sl, LL) X = tellG false (n4p v, sl, LL) q := by
  have hk : k = 1 := u8_is (j := 1) (by decide) h1
  rw [tellG_some h, if_neg (by simp [hk]), if_pos hk, if_neg (by omega)]
theorem tg_entry (h1 : ¬ (k.toNat : Int) = 1) (h2 : (k.toNat : Int) = 2) : tellG false (lif, sl, LL) X = tellG false (lif, sl, putN LL (n, v)) q := by
  have hk : k = 2 := u8_is (j := 2) (by decide) h2
  subst hk
  rw [tellG_some h, if_neg (by decide), if_neg (by decide), if_pos rfl]
theorem tg_gone (h1 : ¬ (k.toNat : Int) = 1) (h2 : ¬ (k.toNat : Int) = 2) (h3 : (k.toNat : Int) = 3) : tellG false (lif, sl, LL) X = tellG false (lif, sl, delN LL n) q := by
  have hk : k = 3 := u8_is (j := 3) (by decide) h3
  subst hk
  rw [tellG_some h, if_neg (by decide), if_neg (by decide), if_neg (by decide), if_pos rfl]
theorem tg_seal (h1 : ¬ (k.toNat : Int) = 1) (h2 : ¬ (k.toNat : Int) = 2) (h3 : ¬ (k.toNat : Int) = 3) (h4 : (k.toNat : Int) = 4) : tellG false (lif, sl, LL) X = tellG false (lif, true, LL) q := by
  have hk : k = 4 := u8_is (j := 4) (by decide) h4
  subst hk
  rw [tellG_some h, if_neg (by decide), if_neg (by decide), if_neg (by decide), if_neg (by decide), if_pos rfl]
theorem tg_other (h1 : ¬ (k.toNat : Int) = 1) (h2 : ¬ (k.toNat : Int) = 2) (h3 : ¬ (k.toNat : Int) = 3) (h4 : ¬ (k.toNat : Int) = 4) : tellG false (lif, sl, LL) X = (lif, sl, LL) := by
  have k1 : ¬ k = 1 := fun e => h1 (by rw [e]; rfl)
  have k2 : ¬ k = 2 := fun e => h2 (by rw [e]; rfl)
  have k3 : ¬ k = 3 := fun e => h3 (by rw [e]; rfl)
  have k4 : ¬ k = 4 := fun e => h4 (by rw [e]; rfl)
  rw [tellG_some h, if_neg (by simp [k1]), if_neg k1, if_neg k2, if_neg k3, if_neg k4]
end
theorem sd_shut2 {w0 w w1 : World} {G : Nat → Prop} {gg r ck : Nat} {s : Sd} {es : List LEnt} {rs : List RowD} {L : List NV} (hp : HasOk ⟨ck, es, rs⟩ L) (h : Sat w0 w [rest w1 G, sdA gg s, smapA r (es.map LEnt.e) ck, bag rs]) : Sat w0 w [star2 (sdA gg s) (hasA r L), rest w1 G] := by
  have h1 := has_shut (l := [rest w1 G, sdA gg s]) hp h
  exact (h1.join (i := 1) (j := 2) rfl rfl (by decide)).pick [1, 0] (by decide)
/-- What a slab tells, bounded. -/
structure TaleOk (t : Tale) : Prop where
  life : t.1 < 4294967296
  ri : Rises t.2.2
  nm : ∀ x ∈ t.2.2, x.1.length ≤ 255
  vl : ∀ x ∈ t.2.2, x.2.length ≤ 262144
  ct : t.2.2.length ≤ 262144
set_option maxRecDepth 100000 in
set_option maxHeartbeats 4000000 in
theorem lread_up (w : World) (G : Nat → Prop) (gg : Nat) (sd0 : Sd) (N : Int) (in0 : sd0.In N) (hN : N ≤ 1000000) (hdn : sd0.down = false) (hS : Sat w w [sdA gg sd0, rest w G]) : Calls Try.prog 31 #[pt gg 0] w fun e w' => ∃ r, e = .returned (.tuple #[.agg #[.int .u32 ((tellP sd0.rd).1 : Nat), .bool (tellP sd0.rd).2.1, .map (some r)], .int .i64 0]) ∧ Sat w w' [star2 (sdA gg sd0) (hasA r (tellP sd0.rd).2.2), rest w G] := by
 refine enter 69 Try.func31 rfl rfl rfl fun a F => ?_
 have S : Sat w w [rest w G, sdA gg sd0] := hS.pick [1, 0] (by decide)
 have S := S.pushBag
 refine s_reg ?_
 refine l_do F rfl rfl (op_alloc S _ (.agg #[.int .u32 0, .bool false, .map none]) rfl (by kernel_rfl) fun b1 z S a F => ?_)
 refine l_pk 1 (fun L => (3, .int .i64 0) :: L) F fun a F => ?_
 refine l_then ?_
 refine s_reg ?_
 refine l_pk 1 (fun L => (14, pt gg 0) :: L) F fun a F => ?_
 refine l_do F rfl rfl (op_fn F (by kernel_rfl) ((by have h9 := sread_at S (i := 1) rfl in0 (by omega); rw [show upE sd0.down = 0 from by rw [hdn]; rfl] at h9; exact h9)) ?_)
 rintro e z ⟨Ap, cp, rfl, S⟩
 have hrl := rd_len in0
 have S := S.toRd (i := 4) rfl (by omega)
 refine ⟨_, rfl, ?_⟩
 intro a F
 refine l_pk 5 (fun L => (5, .int .i64 0) :: (4, .slice Ap sd0.rd.length cp) :: (17, .int .i64 0) :: (16, .slice Ap sd0.rd.length cp) :: (13, .tuple #[.slice Ap sd0.rd.length cp, .int .i64 0]) :: L) F fun a F => ?_
 refine l_then ?_
 refine wp_seq ?_
 refine s_reg ?_
 refine l_pk 2 (fun L => (19, .bool false) :: (18, .int .i64 0) :: L) F fun a F => ?_
 refine l_then ?_
 refine c_f F rfl ?_
 refine wp_skip ?_
 refine then_n ?_
 refine s_reg ?_
 refine l_do F rfl rfl (op_smakeMap S _ rfl fun r2 z S a F => ?_)
 refine l_pk 1 (fun L => (23, .agg #[.int .u32 0, .bool false, .map (some r2)]) :: L) F fun a F => ?_
 refine l_do F rfl rfl (op_alloc S _ (.agg #[.int .u32 0, .bool false, .map none]) rfl (by kernel_rfl) fun b3 z S a F => ?_)
 refine l_do F rfl rfl (op_storeB S 6 _ _ _ b3 0 (.agg #[.int .u32 0, .bool false, .map (some r2)]) F rfl rfl (by kernel_rfl) (by kernel_rfl) (by kernel_rfl) (by kernel_rfl) (by kernel_rfl) fun z S a F => ?_)
 refine l_then ?_
 refine s_reg ?_
 refine l_pk 1 (fun L => (7, .bool true) :: L) F fun a F => ?_
 refine l_then ?_
 refine wp_block ?_
 refine wp_loop_m (fun m a z => ∃ (Ap : Option Addr) (cp : Nat) (X : Bs) (fst : Bool) (lif : Nat) (sl : Bool) (LL : List NV) (es : List LEnt) (ck : Nat) (rs : List RowD), m = X.length ∧ (tellG fst (lif, sl, LL) X = tellP sd0.rd) ∧ (HasOk ⟨ck, es, rs⟩ LL) ∧ (Rises LL) ∧ (∀ x ∈ LL, x.1.length ≤ 255) ∧ (∀ x ∈ LL, x.2.length ≤ 262144) ∧ (lif < 4294967296) ∧ (LL.length + X.length ≤ 262144) ∧ Fr a 69 [(2, pt b1 0), (3, .int .i64 0), (4, .slice Ap X.length cp), (6, pt b3 0), (7, .bool fst)] ∧ Sat w z [rest w G, sdA gg sd0, bag rs, box b1 72 [.int .u32 0, .bool false, .map none], rdA Ap cp X, smapA r2 (es.map LEnt.e) ck, box b3 72 [.int .u32 (lif : Nat), .bool sl, .map (some r2)]]) _ ⟨Ap, cp, sd0.rd, true, 0, false, [], [], 0, [], rfl, rfl, has_nil, Rises.nil, nofun, nofun, (by decide), (by simpa using hrl), F.subk, S⟩ ?_
 rintro m a z ⟨Ap, cp, X, fst, lif, sl, LL, es, ck, rs, hm, hf4, hf5, hf6, hf7, hf8, hf9, hf10, F, S⟩
 obtain ⟨htg, hok, hri, hnm, hvl, hlif, hct⟩ := And.intro hf4 (And.intro hf5 (And.intro hf6 (And.intro hf7 (And.intro hf8 (And.intro hf9 hf10)))))
 refine wp_seq ?_
 refine wp_block ?_
 refine s_reg ?_
 refine l_pk 1 (fun L => (25, .slice Ap X.length cp) :: L) F fun a F => ?_
 rcases next_cases X with hnx | ⟨k, n, v, q, hnx⟩
 ·
  refine l_do F rfl rfl (op_fn F (by kernel_rfl) (next_none_any _ Ap cp X (S.rdOf (i := 4) rfl) (S.rdCap (i := 4) rfl) (by omega) hnx) ?_)
  rintro e z ⟨rfl, hb⟩
  have S := S.grow hb
  refine ⟨_, rfl, ?_⟩
  intro a F
  refine l_pk 11 (fun L => (12, .bool false) :: (11, .slice none 0 0) :: (10, .slice none 0 0) :: (9, strV []) :: (8, .int .u8 0) :: (31, .bool false) :: (30, .slice none 0 0) :: (29, .slice none 0 0) :: (28, strV []) :: (27, .int .u8 0) :: (24, .tuple #[.int .u8 0, strV [], .slice none 0 0, .slice none 0 0, .bool false]) :: L) F fun a F => ?_
  refine l_then ?_
  refine wp_seq ?_
  refine s_reg ?_
  refine l_pk 8 (fun L => (39, .bool true) :: (38, undef) :: (37, undef) :: (36, undef) :: (35, undef) :: (34, .bool true) :: (33, .bool true) :: (32, .bool false) :: L) F fun a F => ?_
  refine l_then ?_
  refine c_t F rfl ?_
  refine s_reg ?_
  refine l_do F rfl rfl (op_loadK _ _ (some ⟨b3, 0, none⟩) 0 [.int .u32 (lif : Nat), .bool sl, .map (some r2)] F rfl (by kernel_rfl) (by kernel_rfl) (by kernel_rfl) (by simp) (cBoxK S 6 rfl 0 (by kernel_rfl)) (fun a F => ?_))
  refine l_do F rfl rfl (op_storeB S 3 _ _ _ b1 0 (.agg #[.int .u32 (lif : Nat), .bool sl, .map (some r2)]) F rfl rfl (by kernel_rfl) (by kernel_rfl) (by kernel_rfl) (by kernel_rfl) (by kernel_rfl) fun z S a F => ?_)
  refine l_pk 1 (fun L => (3, .int .i64 0) :: L) F fun a F => ?_
  refine l_then ?_
  refine wp_ret ?_
  refine then_r (inb_r (then_r (then_r (inb_r (?_)))))
  have ht9 := (tellG_none hnx).symm.trans htg
  exact fin F [.cell 2 72, .tmp 3] [.agg #[.int .u32 (lif : Nat), .bool sl, .map (some r2)], .int .i64 0] rfl ⟨⟨_, by kernel_rfl, resK S 3 (cs := [.int .u32 (lif : Nat), .bool sl, .map (some r2)]) rfl (by kernel_rfl) (by kernel_rfl) (by simp)⟩, by kernel_rfl, trivial⟩ (.tuple #[.agg #[.int .u32 (lif : Nat), .bool sl, .map (some r2)], .int .i64 0]) rfl ⟨r2, by rw [← ht9], by rw [← ht9]; exact sd_shut2 hok (S.pick [0, 1, 5, 2] (by decide))⟩
 refine l_do F rfl rfl (op_fn F (by kernel_rfl) (next_some_any _ Ap cp X (S.rdOf (i := 4) rfl) (S.rdCap (i := 4) rfl) (by omega) hnx) ?_)
 rintro e z ⟨Av, cv, Aq, cq, rfl, hp1, hp2, hb⟩
 have S := S.grow hb
 obtain ⟨hq1, hq2, hq3⟩ := next_shorter hnx
 refine ⟨_, rfl, ?_⟩
 intro a F
 refine l_pk 11 (fun L => (12, .bool true) :: (11, .slice Aq q.length cq) :: (10, .slice Av v.length cv) :: (9, strV n) :: (8, .int .u8 (k.toNat : Nat)) :: (31, .bool true) :: (30, .slice Aq q.length cq) :: (29, .slice Av v.length cv) :: (28, strV n) :: (27, .int .u8 (k.toNat : Nat)) :: (24, .tuple #[.int .u8 (k.toNat : Nat), strV n, .slice Av v.length cv, .slice Aq q.length cq, .bool true]) :: L) F fun a F => ?_
 refine l_then ?_
 refine wp_seq ?_
 refine s_reg ?_
 refine l_pk 5 (fun L => (36, .int .u8 (k.toNat : Nat)) :: (35, .bool fst) :: (34, .bool false) :: (33, .bool false) :: (32, .bool true) :: L) F fun a F => ?_
 by_cases ht11 : ((k.toNat : Nat) : Int) = (1 : Int)
 ·
  refine l_do F rfl rfl (op_pk F (v0 := .bool (((k.toNat : Nat) : Int) == (1 : Int))) (v := .bool true) (eqlT ht11) fun a F => ?_)
  cases fst with
  | false =>
   skip
   refine l_pk 2 (fun L => (39, .bool true) :: (38, .bool true) :: L) F fun a F => ?_
   refine l_then ?_
   refine c_t F rfl ?_
   refine s_reg ?_
   refine l_do F rfl rfl (op_loadK _ _ (some ⟨b3, 0, none⟩) 0 [.int .u32 (lif : Nat), .bool sl, .map (some r2)] F rfl (by kernel_rfl) (by kernel_rfl) (by kernel_rfl) (by simp) (cBoxK S 6 rfl 0 (by kernel_rfl)) (fun a F => ?_))
   refine l_do F rfl rfl (op_storeB S 3 _ _ _ b1 0 (.agg #[.int .u32 (lif : Nat), .bool sl, .map (some r2)]) F rfl rfl (by kernel_rfl) (by kernel_rfl) (by kernel_rfl) (by kernel_rfl) (by kernel_rfl) fun z S a F => ?_)
   refine l_pk 1 (fun L => (3, .int .i64 0) :: L) F fun a F => ?_
   refine l_then ?_
   refine wp_ret ?_
   refine then_r (inb_r (then_r (then_r (inb_r (?_)))))
   have ht9 := (tg_first_f hnx ht11).symm.trans htg
   exact fin F [.cell 2 72, .tmp 3] [.agg #[.int .u32 (lif : Nat), .bool sl, .map (some r2)], .int .i64 0] rfl ⟨⟨_, by kernel_rfl, resK S 3 (cs := [.int .u32 (lif : Nat), .bool sl, .map (some r2)]) rfl (by kernel_rfl) (by kernel_rfl) (by simp)⟩, by kernel_rfl, trivial⟩ (.tuple #[.agg #[.int .u32 (lif : Nat), .bool sl, .map (some r2)], .int .i64 0]) rfl ⟨r2, by rw [← ht9], by rw [← ht9]; exact sd_shut2 hok (S.pick [0, 1, 5, 2] (by decide))⟩
  | true =>
   skip
   refine l_pk 2 (fun L => (39, .bool false) :: (38, .bool false) :: L) F fun a F => ?_
   refine l_then ?_
   refine c_f F rfl ?_
   refine wp_skip ?_
   refine then_n ?_
   refine s_reg ?_
   refine l_pk 2 (fun L => (4, .slice Aq q.length cq) :: (41, .slice Aq q.length cq) :: L) F fun a F => ?_
   refine l_then ?_
   refine s_reg ?_
   refine l_pk 1 (fun L => (42, .int .u8 (k.toNat : Nat)) :: L) F fun a F => ?_
   refine l_then ?_
   refine wp_block ?_
   refine s_reg ?_
   refine l_do F rfl rfl (op_pk F (v0 := .bool (((k.toNat : Nat) : Int) == (1 : Int))) (v := .bool true) (eqlT ht11) fun a F => ?_)
   refine l_pk 1 (fun L => (44, .bool true) :: L) F fun a F => ?_
   refine l_then ?_
   refine c_t F rfl ?_
   refine wp_seq ?_
   refine s_reg ?_
   refine l_pk 2 (fun L => (47, .int .i64 (v.length : Nat)) :: (46, .slice Av v.length cv) :: L) F fun a F => ?_
   by_cases ht12 : ((v.length : Nat) : Int) = (4 : Int)
   ·
    refine l_do F rfl rfl (op_pk F (v0 := .bool (((v.length : Nat) : Int) != (4 : Int))) (v := .bool false) (neqF ht12) fun a F => ?_)
    refine l_then ?_
    refine c_f F rfl ?_
    refine wp_skip ?_
    refine then_n ?_
    refine wp_region_list ?_
    refine l_pk 1 (fun L => (50, .slice Av v.length cv) :: L) F fun a F => ?_
    refine l_do F rfl rfl (op_fn F (by kernel_rfl) (of4v_any _ Av cv v (hp1.recs _ (S.rdOf (i := 4) rfl)) (by omega)) ?_)
    rintro e z ⟨bi, Ai, ci, rfl, g⟩
    have S := S.pushThings g
    have hci : 4 ≤ ci := own_cap (S.rowOf (i := 8) rfl)
    refine ⟨_, rfl, ?_⟩
    intro a F
    obtain ⟨G9, g9, hin9, hlt9, k9⟩ := S.frameB [7, 8] (by decide) rfl
    refine l_do F rfl rfl (op_fn F (by kernel_rfl) (four4_any _ G9 bi Ai ci hci (v.getD 0 0) (v.getD 1 0) (v.getD 2 0) (v.getD 3 0) g9) ?_)
    rintro e z9 ⟨rfl, g⟩
    have S : Sat w z9 [rest w G, sdA gg sd0, bag rs, box b1 72 [.int .u32 0, .bool false, .map none], rdA Ap cp X, smapA r2 (es.map LEnt.e) ck, box b3 72 [.int .u32 (lif : Nat), .bool sl, .map (some r2)], box bi 118 [.slice (subA Ai ci 4 1) (4 - 4) (ci - 4), .int .i64 0], row 5 1 (.slice Ai 4 ci) 4 ([v.getD 0 0, v.getD 1 0, v.getD 2 0, v.getD 3 0].flatMap yC)] := k9 z9 [box bi 118 [.slice (subA Ai ci 4 1) (4 - 4) (ci - 4), .int .i64 0], row 5 1 (.slice Ai 4 ci) 4 ([v.getD 0 0, v.getD 1 0, v.getD 2 0, v.getD 3 0].flatMap yC)] rfl g
    clear g g9 k9 hin9 hlt9
    refine ⟨_, rfl, ?_⟩
    intro a F
    refine l_pk 1 (fun L => (53, pt b3 0) :: L) F fun a F => ?_
    refine l_do F rfl rfl (op_storeB S 6 _ _ _ b3 0 (.int .u32 (n4p v : Nat)) F rfl rfl (by kernel_rfl) (by kernel_rfl) (by kernel_rfl) (by kernel_rfl) (by kernel_rfl) fun z S a F => ?_)
    refine l_nil (inb_n ?_)
    refine inb_n ?_
    refine then_n ?_
    refine wp_region_list ?_
    refine l_pk 1 (fun L => (7, .bool false) :: L) F fun a F => ?_
    refine l_then ?_
    have S := S.rdPart (i := 4) rfl hp2
    exact ⟨_, (by omega), Aq, cq, q, false, (n4p v), sl, LL, es, ck, rs, rfl, (by rw [← tg_begin hnx ht11 ht12]; exact htg), hok, hri, hnm, hvl, (n4p_lt v), (by omega), F.subk, (S.pick [0, 1, 2, 3, 4, 5, 6] (by decide))⟩
   refine l_do F rfl rfl (op_pk F (v0 := .bool (((v.length : Nat) : Int) != (4 : Int))) (v := .bool true) (neqT ht12) fun a F => ?_)
   refine l_then ?_
   refine c_t F rfl ?_
   refine s_reg ?_
   refine l_do F rfl rfl (op_loadK _ _ (some ⟨b3, 0, none⟩) 0 [.int .u32 (lif : Nat), .bool sl, .map (some r2)] F rfl (by kernel_rfl) (by kernel_rfl) (by kernel_rfl) (by simp) (cBoxK S 6 rfl 0 (by kernel_rfl)) (fun a F => ?_))
   refine l_do F rfl rfl (op_storeB S 3 _ _ _ b1 0 (.agg #[.int .u32 (lif : Nat), .bool sl, .map (some r2)]) F rfl rfl (by kernel_rfl) (by kernel_rfl) (by kernel_rfl) (by kernel_rfl) (by kernel_rfl) fun z S a F => ?_)
   refine l_pk 1 (fun L => (3, .int .i64 0) :: L) F fun a F => ?_
   refine l_then ?_
   refine wp_ret ?_
   refine then_r (inb_r (inb_r (then_r (then_r (inb_r (?_))))))
   have ht9 := (tg_short hnx ht11 ht12).symm.trans htg
   exact fin F [.cell 2 72, .tmp 3] [.agg #[.int .u32 (lif : Nat), .bool sl, .map (some r2)], .int .i64 0] rfl ⟨⟨_, by kernel_rfl, resK S 3 (cs := [.int .u32 (lif : Nat), .bool sl, .map (some r2)]) rfl (by kernel_rfl) (by kernel_rfl) (by simp)⟩, by kernel_rfl, trivial⟩ (.tuple #[.agg #[.int .u32 (lif : Nat), .bool sl, .map (some r2)], .int .i64 0]) rfl ⟨r2, by rw [← ht9], by rw [← ht9]; exact sd_shut2 hok (S.pick [0, 1, 5, 2] (by decide))⟩
 refine l_do F rfl rfl (op_pk F (v0 := .bool (((k.toNat : Nat) : Int) == (1 : Int))) (v := .bool false) (eqlF ht11) fun a F => ?_)
 cases fst with
 | false =>
  skip
  refine l_pk 2 (fun L => (39, .bool false) :: (38, .bool false) :: L) F fun a F => ?_
  refine l_then ?_
  refine c_f F rfl ?_
  refine wp_skip ?_
  refine then_n ?_
  refine s_reg ?_
  refine l_pk 2 (fun L => (4, .slice Aq q.length cq) :: (41, .slice Aq q.length cq) :: L) F fun a F => ?_
  refine l_then ?_
  refine s_reg ?_
  refine l_pk 1 (fun L => (42, .int .u8 (k.toNat : Nat)) :: L) F fun a F => ?_
  refine l_then ?_
  refine wp_block ?_
  refine s_reg ?_
  refine l_do F rfl rfl (op_pk F (v0 := .bool (((k.toNat : Nat) : Int) == (1 : Int))) (v := .bool false) (eqlF ht11) fun a F => ?_)
  refine l_pk 1 (fun L => (44, .bool false) :: L) F fun a F => ?_
  refine l_then ?_
  refine c_f F rfl ?_
  refine s_reg ?_
  by_cases ht13 : ((k.toNat : Nat) : Int) = (2 : Int)
  ·
   refine l_do F rfl rfl (op_pk F (v0 := .bool (((k.toNat : Nat) : Int) == (2 : Int))) (v := .bool true) (eqlT ht13) fun a F => ?_)
   refine l_pk 1 (fun L => (54, .bool true) :: L) F fun a F => ?_
   refine l_then ?_
   refine c_t F rfl ?_
   have S := S.pushEmp
   refine region_gx (fun D => fun ((Ac, cc) : Option Addr × Nat) => [rest w G, sdA gg sd0, bag rs, box b1 72 [.int .u32 0, .bool false, .map none], rdA Ap cp X, bif D 5 then smapA r2 (putS (es.map LEnt.e) n (.slice Ac v.length cc) ck) (putSC (es.map LEnt.e) n ck) else smapA r2 (es.map LEnt.e) ck, box b3 72 [.int .u32 (lif : Nat), .bool sl, .map (some r2)], bif D 4 then row 5 1 (.slice Ac v.length cc) v.length (v.flatMap yC) else emp]) (fun ((Ac, cc) : Option Addr × Nat) => [pt b3 2, .map (some r2), strV n, .slice Av v.length cv, .slice Ac v.length cc, undef]) [(1, [], [5]), (4, [], [5]), (5, [1, 4], [])] (none, 0) rfl (by kernel_rfl) (by kernel_rfl) F S.drew ?_ ?_ ?_ ?_ ?_
   · rintro ⟨Ac, cc⟩; rfl
   · rintro ⟨Ac, cc⟩; kernel_rfl
   ·
    intro D D' x h
    obtain ⟨Ac, cc⟩ := x
    simp only [h 4 (by decide), h 5 (by decide)]
   ·
    refine ⟨?_, ?_⟩
    ·
     refine ⟨_, rfl, rfl, by kernel_rfl, ?_⟩
     rintro D ⟨Ac, cc⟩ a z S F
     refine ⟨by kernel_rfl, ?_⟩
     exact op_ldk (some ⟨b3, 0, none⟩) 2 (.map (some r2)) F rfl (cBox S 6 rfl (j := 2) rfl) (⟨(Ac, cc), rfl, (SameB.refl _ _ rfl), S⟩)
    refine ⟨?_, ?_⟩
    ·
     refine ⟨_, rfl, rfl, by kernel_rfl, ?_⟩
     rintro D ⟨Ac, cc⟩ a z S F
     refine ⟨by kernel_rfl, ?_⟩
     refine op_fn F (by kernel_rfl) (clone_mk _ Av cv v (hp1.recs _ (S.rdOf (i := 4) rfl))) ?_
     rintro e z ⟨y14, y15, rfl, g⟩
     have S := S.fillThing 7 rfl g
     exact ⟨_, rfl, (y14, y15), rfl, ⟨rfl, rfl, rfl, rfl, trivial, trivial, trivial⟩, S⟩
    refine ⟨?_, ?_⟩
    ·
     refine ⟨_, rfl, rfl, by kernel_rfl, ?_⟩
     rintro D ⟨Ac, cc⟩ a z S F
     refine ⟨by kernel_rfl, ?_⟩
     exact op_smapUpdate S 5 _ 9 36 _ _ _ n (.slice Ac v.length cc) F rfl rfl (by kernel_rfl) (by kernel_rfl) (by kernel_rfl) (by kernel_rfl) (by kernel_rfl) fun z S => ⟨(Ac, cc), rfl, (SameB.refl _ _ rfl), S⟩
    trivial
   rintro ⟨Ac, cc⟩ a z F S
   have F := F.subk (l := [(2, pt b1 0), (3, .int .i64 0), (4, .slice Aq q.length cq), (6, pt b3 0), (7, .bool false)])
   have S : Sat w z [rest w G, sdA gg sd0, bag rs, box b1 72 [.int .u32 0, .bool false, .map none], rdA Ap cp X, smapA r2 (putS (es.map LEnt.e) n (.slice Ac v.length cc) ck) (putSC (es.map LEnt.e) n ck), box b3 72 [.int .u32 (lif : Nat), .bool sl, .map (some r2)], row 5 1 (.slice Ac v.length cc) v.length (v.flatMap yC)] := S
   refine inb_n ?_
   refine inb_n ?_
   refine then_n ?_
   refine wp_region_list ?_
   refine l_pk 1 (fun L => (7, .bool false) :: L) F fun a F => ?_
   refine l_then ?_
   obtain ⟨es', hes, hok'⟩ := has_put hok n v Ac cc (by omega) (by omega)
   rw [hes] at S
   have S := S.bagAdd 2 7 rfl rfl rfl
   have hpl := put_len LL (n, v)
   have S := S.rdPart (i := 4) rfl hp2
   exact ⟨_, (by omega), Aq, cq, q, false, lif, sl, (putN LL (n, v)), es', (putSC (es.map LEnt.e) n ck), (rs ++ [(⟨5, 1, .slice Ac v.length cc, v.length, v.flatMap yC⟩ : RowD)]), rfl, (by rw [← tg_entry hnx ht11 ht13]; exact htg), hok', (put_rises hri _), (fun y hy => by rcases put_mem hy with rfl | hy; exact hq2; exact hnm y hy), (fun y hy => by rcases put_mem hy with rfl | hy; exact (show v.length ≤ 262144 from by omega); exact hvl y hy), hlif, (by omega), F.subk, (S.pick [0, 1, 2, 3, 4, 5, 6] (by decide))⟩
  refine l_do F rfl rfl (op_pk F (v0 := .bool (((k.toNat : Nat) : Int) == (2 : Int))) (v := .bool false) (eqlF ht13) fun a F => ?_)
  refine l_pk 1 (fun L => (54, .bool false) :: L) F fun a F => ?_
  refine l_then ?_
  refine c_f F rfl ?_
  refine s_reg ?_
  by_cases ht16 : ((k.toNat : Nat) : Int) = (3 : Int)
  ·
   refine l_do F rfl rfl (op_pk F (v0 := .bool (((k.toNat : Nat) : Int) == (3 : Int))) (v := .bool true) (eqlT ht16) fun a F => ?_)
   refine l_pk 1 (fun L => (61, .bool true) :: L) F fun a F => ?_
   refine l_then ?_
   refine c_t F rfl ?_
   refine wp_region_list ?_
   refine l_pk 1 (fun L => (63, pt b3 2) :: L) F fun a F => ?_
   refine l_do F rfl rfl (op_ldk (some ⟨b3, 0, none⟩) 2 (.map (some r2)) F rfl (cBox S 6 rfl (j := 2) rfl) (fun a F => ?_))
   refine l_pk 1 (fun L => (65, strV n) :: L) F fun a F => ?_
   refine l_do F rfl rfl (op_sdelete S 5 _ _ 9 36 _ _ n F rfl rfl (by kernel_rfl) (by kernel_rfl) (by kernel_rfl) (by kernel_rfl) fun z S a F => ?_)
   refine l_nil (inb_n ?_)
   refine inb_n ?_
   refine then_n ?_
   refine wp_region_list ?_
   refine l_pk 1 (fun L => (7, .bool false) :: L) F fun a F => ?_
   refine l_then ?_
   obtain ⟨es', hes, hok'⟩ := has_del hok n
   rw [hes] at S
   have hpl := del_len LL n
   have S := S.rdPart (i := 4) rfl hp2
   exact ⟨_, (by omega), Aq, cq, q, false, lif, sl, (delN LL n), es', ck, rs, rfl, (by rw [← tg_gone hnx ht11 ht13 ht16]; exact htg), hok', (del_rises hri _), (fun y hy => hnm y (del_mem hy)), (fun y hy => hvl y (del_mem hy)), hlif, (by omega), F.subk, (S.pick [0, 1, 2, 3, 4, 5, 6] (by decide))⟩
  refine l_do F rfl rfl (op_pk F (v0 := .bool (((k.toNat : Nat) : Int) == (3 : Int))) (v := .bool false) (eqlF ht16) fun a F => ?_)
  refine l_pk 1 (fun L => (61, .bool false) :: L) F fun a F => ?_
  refine l_then ?_
  refine c_f F rfl ?_
  refine s_reg ?_
  by_cases ht17 : ((k.toNat : Nat) : Int) = (4 : Int)
  ·
   refine l_do F rfl rfl (op_pk F (v0 := .bool (((k.toNat : Nat) : Int) == (4 : Int))) (v := .bool true) (eqlT ht17) fun a F => ?_)
   refine l_pk 1 (fun L => (66, .bool true) :: L) F fun a F => ?_
   refine l_then ?_
   refine c_t F rfl ?_
   refine wp_region_list ?_
   refine l_pk 1 (fun L => (68, pt b3 1) :: L) F fun a F => ?_
   refine l_do F rfl rfl (op_storeB S 6 _ _ _ b3 1 (.bool true) F rfl rfl (by kernel_rfl) (by kernel_rfl) (by kernel_rfl) (by kernel_rfl) (by kernel_rfl) fun z S a F => ?_)
   refine l_nil (inb_n ?_)
   refine inb_n ?_
   refine then_n ?_
   refine wp_region_list ?_
   refine l_pk 1 (fun L => (7, .bool false) :: L) F fun a F => ?_
   refine l_then ?_
   have S := S.rdPart (i := 4) rfl hp2
   exact ⟨_, (by omega), Aq, cq, q, false, lif, true, LL, es, ck, rs, rfl, (by rw [← tg_seal hnx ht11 ht13 ht16 ht17]; exact htg), hok, hri, hnm, hvl, hlif, (by omega), F.subk, (S.pick [0, 1, 2, 3, 4, 5, 6] (by decide))⟩
  refine l_do F rfl rfl (op_pk F (v0 := .bool (((k.toNat : Nat) : Int) == (4 : Int))) (v := .bool false) (eqlF ht17) fun a F => ?_)
  refine l_pk 1 (fun L => (66, .bool false) :: L) F fun a F => ?_
  refine l_then ?_
  refine c_f F rfl ?_
  refine s_reg ?_
  refine l_do F rfl rfl (op_loadK _ _ (some ⟨b3, 0, none⟩) 0 [.int .u32 (lif : Nat), .bool sl, .map (some r2)] F rfl (by kernel_rfl) (by kernel_rfl) (by kernel_rfl) (by simp) (cBoxK S 6 rfl 0 (by kernel_rfl)) (fun a F => ?_))
  refine l_do F rfl rfl (op_storeB S 3 _ _ _ b1 0 (.agg #[.int .u32 (lif : Nat), .bool sl, .map (some r2)]) F rfl rfl (by kernel_rfl) (by kernel_rfl) (by kernel_rfl) (by kernel_rfl) (by kernel_rfl) fun z S a F => ?_)
  refine l_pk 1 (fun L => (3, .int .i64 0) :: L) F fun a F => ?_
  refine l_then ?_
  refine wp_ret ?_
  refine inb_r (inb_r (then_r (then_r (inb_r (?_)))))
  have ht9 := (tg_other hnx ht11 ht13 ht16 ht17).symm.trans htg
  exact fin F [.cell 2 72, .tmp 3] [.agg #[.int .u32 (lif : Nat), .bool sl, .map (some r2)], .int .i64 0] rfl ⟨⟨_, by kernel_rfl, resK S 3 (cs := [.int .u32 (lif : Nat), .bool sl, .map (some r2)]) rfl (by kernel_rfl) (by kernel_rfl) (by simp)⟩, by kernel_rfl, trivial⟩ (.tuple #[.agg #[.int .u32 (lif : Nat), .bool sl, .map (some r2)], .int .i64 0]) rfl ⟨r2, by rw [← ht9], by rw [← ht9]; exact sd_shut2 hok (S.pick [0, 1, 5, 2] (by decide))⟩
 | true =>
  skip
  refine l_pk 2 (fun L => (39, .bool true) :: (38, .bool true) :: L) F fun a F => ?_
  refine l_then ?_
  refine c_t F rfl ?_
  refine s_reg ?_
  refine l_do F rfl rfl (op_loadK _ _ (some ⟨b3, 0, none⟩) 0 [.int .u32 (lif : Nat), .bool sl, .map (some r2)] F rfl (by kernel_rfl) (by kernel_rfl) (by kernel_rfl) (by simp) (cBoxK S 6 rfl 0 (by kernel_rfl)) (fun a F => ?_))
  refine l_do F rfl rfl (op_storeB S 3 _ _ _ b1 0 (.agg #[.int .u32 (lif : Nat), .bool sl, .map (some r2)]) F rfl rfl (by kernel_rfl) (by kernel_rfl) (by kernel_rfl) (by kernel_rfl) (by kernel_rfl) fun z S a F => ?_)
  refine l_pk 1 (fun L => (3, .int .i64 0) :: L) F fun a F => ?_
  refine l_then ?_
  refine wp_ret ?_
  refine then_r (inb_r (then_r (then_r (inb_r (?_)))))
  have ht9 := (tg_first_t hnx ht11).symm.trans htg
  exact fin F [.cell 2 72, .tmp 3] [.agg #[.int .u32 (lif : Nat), .bool sl, .map (some r2)], .int .i64 0] rfl ⟨⟨_, by kernel_rfl, resK S 3 (cs := [.int .u32 (lif : Nat), .bool sl, .map (some r2)]) rfl (by kernel_rfl) (by kernel_rfl) (by simp)⟩, by kernel_rfl, trivial⟩ (.tuple #[.agg #[.int .u32 (lif : Nat), .bool sl, .map (some r2)], .int .i64 0]) rfl ⟨r2, by rw [← ht9], by rw [← ht9]; exact sd_shut2 hok (S.pick [0, 1, 5, 2] (by decide))⟩
end Go.Proofs.Ytidcdfilfccigaa
