/- Walk over the law LogbookPlays. -/
import Derived.Test.YtidcdfilfccigaaRli17
import Derived.Test.YtidcdfilfccigaaAwk17
import Derived.Test.YtidcdfilfccigaaRead17
namespace Go.Proofs.Ytidcdfilfccigaa
set_option linter.unusedVariables false
set_option linter.unusedSimpArgs false
set_option linter.unnecessarySimpa false
open Go Go.RowKit

section
variable {P : Program} {a : Act} {n : Nat} {L : List (Nat × Value)} {o : Oper} {w0 w : World} {R : Value → World → Prop} {l : List Asn}
theorem op_bytesF (S : Sat w0 w l) (i : Nat) (hi : l[i]? = some emp) (s t e : TypeId) (x : Operand) (X : Bs) (F : Fr a n L) (ho : o.op = .convert s t x) (hs : P.underlying s = some .string) (ht : P.underlying t = some (.slice e)) (he : P.underlying e = some (.int .u8)) (hx : val? L x = some (strV X))
    (hR : ∀ b c w', Sat w0 w' (l.set i (sbA b e X c)) → R (.slice (some ⟨b, 0, none⟩) X.length c) w') : OpR P a w o R := by
  have h := run_bytes_of_string (P := P) w s t e ⟨X.toArray⟩ hs ht he
  rw [str_size] at h
  obtain ⟨F9, hF, h1⟩ := S.drew.step hi
  refine op_run (v := .slice (some ⟨w.heap.size, 0, none⟩) X.length (grownCap w X.length 0 e)) ?_ (hR w.heap.size _ _ (h1 _ _ (· = w.heap.size) ⟨rfl, by simpa using heap_alloc_new w.drew _⟩ ⟨(Chg.refl _ _).alloc _, fun q hq => .inr (by cases hq; exact Nat.le_refl _)⟩))
  unfold execOp
  simp only [ho, F.val hx, strV, Sem.run_bind, h, Result.andThen_ok, Sem.run_pure]
end
section
variable {w0 w : World} {l : List Asn}
theorem InG.sb (S : Sat w0 w l) {is : List Nat} {G : Nat → Prop} (hin : ∀ (j : Nat) (B : Asn) (k : Nat), j ∉ is → l[j]? = some B → (∀ F, B.sat F w → F k) → G k) (j : Nat) (hj : j ∉ is) {b c : Nat} {T : TypeId} {X : Bs} {xs : List Value} (hi : l[j]? = some (sbA b T X c)) : InG G (some ⟨b, 0, none⟩) xs := fun ad ha _ => hin j _ _ hj hi fun F hF => by
  cases ha
  exact hF.1 ▸ rfl
end
def fitsB (nm vl : Bs) : Bool := decide (nm.length ≤ 300) && decide (vl.length ≤ 5000)
theorem fits_t {nm vl : Bs} (h : fitsB nm vl = true) : nm.length ≤ 300 ∧ vl.length ≤ 5000 := by
  unfold fitsB at h
  rw [Bool.and_eq_true] at h
  exact ⟨of_decide_eq_true h.1, of_decide_eq_true h.2⟩
theorem fits_no1 {nm vl : Bs} (h : ¬ (nm.length : Int) ≤ 300) : fitsB nm vl = false := by unfold fitsB; rw [decide_eq_false (by omega)]; rfl
theorem fits_no2 {nm vl : Bs} (h : ¬ (vl.length : Int) ≤ 5000) : fitsB nm vl = false := by unfold fitsB; rw [decide_eq_false (p := vl.length ≤ 5000) (by omega), Bool.and_false]
theorem fits_yes {nm vl : Bs} (h : (nm.length : Int) ≤ 300) (h2 : (vl.length : Int) ≤ 5000) : fitsB nm vl = true := by unfold fitsB; rw [decide_eq_true (by omega), decide_eq_true (by omega)]; rfl
set_option maxRecDepth 100000 in
set_option maxHeartbeats 4000000 in
theorem fits17 (w : World) (o : OpV) : Calls Try.prog 9 #[.agg #[.int .i64 o.kind, strV o.nm, strV o.vl, .int .u8 (o.wh : Nat), .int .i64 o.n, .int .i64 o.k0, .int .i64 o.k1, .int .i64 o.z0, .int .i64 o.z1]] w fun e w' => e = .returned (.bool (fitsB o.nm o.vl)) ∧ Below w.heap.size w w' := by
 refine enter 13 Try.func9 rfl rfl rfl fun a F => ?_
 have S := Sat.pushRest w
 refine s_reg ?_
 refine l_do F rfl rfl (op_box S _ _ (.agg #[.int .i64 o.kind, strV o.nm, strV o.vl, .int .u8 (o.wh : Nat), .int .i64 o.n, .int .i64 o.k0, .int .i64 o.k1, .int .i64 o.z0, .int .i64 o.z1]) F rfl (by kernel_rfl) fun b1 z S a F => ?_)
 refine l_pk 1 (fun L => (2, .bool false) :: L) F fun a F => ?_
 refine l_then ?_
 refine s_reg ?_
 refine l_pk 1 (fun L => (3, pt b1 1) :: L) F fun a F => ?_
 refine l_do F rfl rfl (op_ldk (some ⟨b1, 0, none⟩) 1 (strV o.nm) F rfl (cBox S 1 rfl (j := 1) rfl) (fun a F => ?_))
 refine l_do F rfl rfl (op_strlen _ _ o.nm F rfl (by kernel_rfl) (by kernel_rfl) (fun a F => ?_))
 by_cases ht2 : ((o.nm.length : Nat) : Int) ≤ (300 : Int)
 ·
  refine l_do F rfl rfl (op_pk F (v0 := .bool (decide (((o.nm.length : Nat) : Int) ≤ (300 : Int)))) (v := .bool true) (leqT ht2) fun a F => ?_)
  refine l_pk 2 (fun L => (8, pt b1 2) :: (7, .bool true) :: L) F fun a F => ?_
  refine l_do F rfl rfl (op_ldk (some ⟨b1, 0, none⟩) 2 (strV o.vl) F rfl (cBox S 1 rfl (j := 2) rfl) (fun a F => ?_))
  refine l_do F rfl rfl (op_strlen _ _ o.vl F rfl (by kernel_rfl) (by kernel_rfl) (fun a F => ?_))
  by_cases ht3 : ((o.vl.length : Nat) : Int) ≤ (5000 : Int)
  ·
   refine l_do F rfl rfl (op_pk F (v0 := .bool (decide (((o.vl.length : Nat) : Int) ≤ (5000 : Int)))) (v := .bool true) (leqT ht3) fun a F => ?_)
   refine l_pk 2 (fun L => (2, .bool true) :: (12, .bool true) :: L) F fun a F => ?_
   refine l_then ?_
   refine wp_ret ?_
   exact fin F [.tmp 2] [.bool true] rfl ⟨by kernel_rfl, trivial⟩ (.bool true) rfl ⟨by rw [fits_yes ht2 ht3], S.below (i := 0) rfl⟩
  refine l_do F rfl rfl (op_pk F (v0 := .bool (decide (((o.vl.length : Nat) : Int) ≤ (5000 : Int)))) (v := .bool false) (leqF ht3) fun a F => ?_)
  refine l_pk 2 (fun L => (2, .bool false) :: (12, .bool false) :: L) F fun a F => ?_
  refine l_then ?_
  refine wp_ret ?_
  exact fin F [.tmp 2] [.bool false] rfl ⟨by kernel_rfl, trivial⟩ (.bool false) rfl ⟨by rw [fits_no2 ht3], S.below (i := 0) rfl⟩
 refine l_do F rfl rfl (op_pk F (v0 := .bool (decide (((o.nm.length : Nat) : Int) ≤ (300 : Int)))) (v := .bool false) (leqF ht2) fun a F => ?_)
 refine l_pk 7 (fun L => (2, .bool false) :: (12, .bool false) :: (11, undef) :: (10, undef) :: (9, undef) :: (8, undef) :: (7, .bool false) :: L) F fun a F => ?_
 refine l_then ?_
 refine wp_ret ?_
 exact fin F [.tmp 2] [.bool false] rfl ⟨by kernel_rfl, trivial⟩ (.bool false) rfl ⟨by rw [fits_no1 ht2], S.below (i := 0) rfl⟩
theorem wh_cases (n : Nat) : n % 2 = 0 ∨ n % 2 = 1 := by omega
section
variable {w : World} {G : Nat → Prop} {g m : Nat} {s : Sd} {n : Int}
theorem does_fus (ok : s.In n) (hn : n ≤ 4611686018427387904) (x : Int) (x0 : -9223372036854775808 ≤ x) (x1 : x ≤ 9223372036854775807) (hS : Sat w w [sdA g s, rsA m s, rest w G]) : Calls Try.prog 28 #[pt g 0, pt m 0, .agg #[.int .i64 3, .int .i64 x, .int .i64 0, .slice none 0 0]] w fun e w' => e = .returned (.bool true) ∧ Sat w w' [sdA g (s.fus x), rsA m (s.fus x), rest w G] := by
  have h := hS.call2 (i := 0) (j := 1) (A' := slabA g (opS s.st 3 x 0 [])) (B' := refA m (opS s.st 3 x 0 [])) (Q := fun e => e = .returned (.bool true)) rfl rfl (by decide) (fun F hF ha => does_at w g m s.st n ok hn 3 x 0 x0 x1 [] none 0 (fun _ => ⟨rfl, rfl⟩) nofun (by simp) F hF nofun)
  rw [show opS s.st 3 x 0 [] = (s.fus x).st from by simp [opS, st_fus]] at h
  exact h
theorem does_crs (ok : s.In n) (hn : n ≤ 4611686018427387904) (k z : Int) (x0 : -9223372036854775808 ≤ k) (x1 : k ≤ 9223372036854775807) (hS : Sat w w [sdA g s, rsA m s, rest w G]) : Calls Try.prog 28 #[pt g 0, pt m 0, .agg #[.int .i64 4, .int .i64 k, .int .i64 z, .slice none 0 0]] w fun e w' => e = .returned (.bool true) ∧ Sat w w' [sdA g (s.crs k z), rsA m (s.crs k z), rest w G] := by
  have h := hS.call2 (i := 0) (j := 1) (A' := slabA g (opS s.st 4 k z [])) (B' := refA m (opS s.st 4 k z [])) (Q := fun e => e = .returned (.bool true)) rfl rfl (by decide) (fun F hF ha => does_at w g m s.st n ok hn 4 k z x0 x1 [] none 0 (fun _ => ⟨rfl, rfl⟩) nofun (by simp) F hF nofun)
  rw [show opS s.st 4 k z [] = (s.crs k z).st from by simp [opS, st_crs]] at h
  exact h
theorem does_app (ok : s.In n) (hn : n ≤ 4611686018427387904) (P : Bs) (A : Option Addr) (c : Nat) (hR : Recs 1 yC w A c P) (hG : InG G A (P.flatMap yC)) (hS : Sat w w [sdA g s, rsA m s, rest w G]) : Calls Try.prog 28 #[pt g 0, pt m 0, .agg #[.int .i64 0, .int .i64 0, .int .i64 0, .slice A P.length c]] w fun e w' => e = .returned (.bool true) ∧ Sat w w' [sdA g (s.app P), rsA m (s.app P), rest w G] := by
  have h := hS.call2 (i := 0) (j := 1) (A' := slabA g (opS s.st 0 0 0 (ints P))) (B' := refA m (opS s.st 0 0 0 (ints P))) (Q := fun e => e = .returned (.bool true)) rfl rfl (by decide) (fun F hF ha => does_at w g m s.st n ok hn 0 0 0 (by decide) (by decide) (ints P) A c (fun e => by rw [ints_len]; exact hR.none_ e) (by rw [ints_bytes]; exact hR.src) (by rw [ints_len]; exact hR.len) F hF (fun ad had hne => ha 2 _ ad.block (by decide) (by decide) rfl (fun F' hF' => (hF'.2 _ (hG ad had (ints_ne hne))).2.1)))
  rw [show opS s.st 0 0 0 (ints P) = (s.app P).st from by simp [opS, st_app], ints_len] at h
  exact h
theorem ropen_ok {sd0 sd1 : Sd} {m0 m1 : Nat} (N : Int) (in0 : sd0.In N) (in1 : sd1.In N) (hN : N ≤ 1000000) (hd0 : sd0.down = false) (hd1 : sd1.down = false) (h : (openT sd0 sd1).1 = 0) (hS : Sat w w [rsA m0 sd0, rsA m1 sd1, rest w G]) :
    Calls Try.prog 23 #[pt m0 0, pt m1 0] w fun e w' => ∃ b, e = .returned (.tuple #[pt b 0, .int .i64 0]) ∧ Sat w w' [star2 (rsA m0 (openT sd0 sd1).2.s0) (rlA b m0 m1 (openT sd0 sd1).2.lb), rsA m1 (openT sd0 sd1).2.s1, rest w G] := by
  refine (ropen_up w G m0 m1 sd0 sd1 N in0 in1 hN hd0 hd1 hS).mono ?_
  rintro e w' (⟨_, b, he, h2⟩ | ⟨h1, _⟩)
  · exact ⟨b, he, h2⟩
  · exact absurd h h1
theorem ropen_er {sd0 sd1 : Sd} {m0 m1 : Nat} (N : Int) (in0 : sd0.In N) (in1 : sd1.In N) (hN : N ≤ 1000000) (hd0 : sd0.down = false) (hd1 : sd1.down = false) (h : ¬ (openT sd0 sd1).1 = 0) (hS : Sat w w [rsA m0 sd0, rsA m1 sd1, rest w G]) :
    Calls Try.prog 23 #[pt m0 0, pt m1 0] w fun e w' => e = .returned (.tuple #[.pointer none, .int .i64 (openT sd0 sd1).1]) ∧ Sat w w' [rsA m0 (openT sd0 sd1).2.s0, rsA m1 (openT sd0 sd1).2.s1, rest w G] := by
  refine (ropen_up w G m0 m1 sd0 sd1 N in0 in1 hN hd0 hd1 hS).mono ?_
  rintro e w' (⟨h1, _⟩ | ⟨_, he, h2⟩)
  · exact absurd h1 h
  · exact ⟨he, h2⟩
theorem rl_open2 {w0 w1 : World} {A : Asn} {b m0 m1 : Nat} {lb : Lb} (h : Sat w0 w [A, rlA b m0 m1 lb, rest w1 G]) : ∃ B c, Sat w0 w [rest w1 G, A, rlBox b m0 m1 lb.on lb.life B lb.L.length c lb.dead, row 100 2 (.slice B lb.L.length c) lb.L.length (lb.L.flatMap nvC)] := by
  obtain ⟨⟨B, c⟩, _, h1⟩ := Sat.openTold [rest w1 G, A] (h.pick [2, 0, 1] (by decide))
  exact ⟨B, c, h1⟩
end
set_option maxRecDepth 100000 in
set_option maxHeartbeats 4000000 in
theorem same17 (w : World) (G : Nat → Prop) (b g0 g1 bm m0 m1 : Nat) (lb : Lb) (ok : LbOk lb 900000) (hS : Sat w w [lgA b g0 g1 lb, rlA bm m0 m1 lb, rest w G]) : Calls Try.prog 30 #[pt b 0, pt bm 0] w fun e w' => e = .returned (.bool true) ∧ Sat w w' [lgA b g0 g1 lb, rlA bm m0 m1 lb, rest w G] := by
 refine enter 74 Try.func30 rfl rfl rfl fun a F => ?_
 obtain ⟨Bl, cl, S⟩ := rl_open2 hS
 have S : Sat w w [rest w G, lgA b g0 g1 lb, box bm 91 [pt m0 0, pt m1 0, .int .i64 (lb.on : Nat), .int .u32 (lb.life : Nat), .slice Bl lb.L.length cl, .int .i64 lb.dead], row 100 2 (.slice Bl lb.L.length cl) lb.L.length (lb.L.flatMap nvC)] := S
 have hlm := nmsP_len lb.L
 have hct := ok.ct
 refine s_reg ?_
 refine l_pk 1 (fun L => (4, .bool false) :: L) F fun a F => ?_
 refine l_then ?_
 refine s_reg ?_
 refine l_pk 1 (fun L => (10, pt b 0) :: L) F fun a F => ?_
 obtain ⟨G9, g9, hin9, hlt9, k9⟩ := S.frameB [1] (by decide) rfl
 refine l_do F rfl rfl (op_fn F (by kernel_rfl) (lnames_at ok.ri g9) ?_)
 rintro e z9 ⟨Am, cm, rfl, g⟩
 have S : Sat w z9 [rest w G, star2 (lgA b g0 g1 lb) (row 9 1 (.slice Am ((nmsP lb.L).length) cm) ((nmsP lb.L).length) ((nmsP lb.L).flatMap sC)), box bm 91 [pt m0 0, pt m1 0, .int .i64 (lb.on : Nat), .int .u32 (lb.life : Nat), .slice Bl lb.L.length cl, .int .i64 lb.dead], row 100 2 (.slice Bl lb.L.length cl) lb.L.length (lb.L.flatMap nvC)] := k9 z9 [star2 (lgA b g0 g1 lb) (row 9 1 (.slice Am ((nmsP lb.L).length) cm) ((nmsP lb.L).length) ((nmsP lb.L).flatMap sC))] rfl g
 clear g g9 k9 hin9 hlt9
 have S := S.open2 (i := 1) rfl
 have S : Sat w z9 [rest w G, lgA b g0 g1 lb, box bm 91 [pt m0 0, pt m1 0, .int .i64 (lb.on : Nat), .int .u32 (lb.life : Nat), .slice Bl lb.L.length cl, .int .i64 lb.dead], row 100 2 (.slice Bl lb.L.length cl) lb.L.length (lb.L.flatMap nvC), row 9 1 (.slice Am ((nmsP lb.L).length) cm) ((nmsP lb.L).length) ((nmsP lb.L).flatMap sC)] := S
 refine ⟨_, rfl, ?_⟩
 intro a F
 refine l_pk 1 (fun L => (5, .slice Am ((nmsP lb.L).length) cm) :: L) F fun a F => ?_
 refine l_then ?_
 refine wp_seq ?_
 refine wp_seq ?_
 refine region_gx (fun D => fun (_ : Unit) => [rest w G, lgA b g0 g1 lb, box bm 91 [pt m0 0, pt m1 0, .int .i64 (lb.on : Nat), .int .u32 (lb.life : Nat), .slice Bl lb.L.length cl, .int .i64 lb.dead], row 100 2 (.slice Bl lb.L.length cl) lb.L.length (lb.L.flatMap nvC), row 9 1 (.slice Am ((nmsP lb.L).length) cm) ((nmsP lb.L).length) ((nmsP lb.L).flatMap sC)]) (fun (_ : Unit) => [.slice Am ((nmsP lb.L).length) cm, .int .i64 ((nmsP lb.L).length : Nat), pt bm 0, pt bm 0, pt bm 4, .slice Bl lb.L.length cl, .int .i64 (lb.L.length : Nat), .bool false, .bool false, pt b 0, .int .u32 (lb.life : Nat), pt bm 0, pt bm 0, pt bm 3, .int .u32 (lb.life : Nat), .bool false, .bool false, .bool false, pt b 0, .int .i64 lb.dead, pt bm 0, pt bm 0, pt bm 5, .int .i64 lb.dead, .bool false, .bool false]) [(5, [], [7, 10, 14, 15, 19, 23, 24]), (7, [5], [10, 14, 15, 19, 23, 24]), (10, [5, 7], [15, 19, 23, 24]), (14, [5, 7], [15, 19, 23, 24]), (15, [5, 7, 10, 14], [19, 23, 24]), (19, [5, 7, 10, 14, 15], [24]), (23, [5, 7, 10, 14, 15], [24]), (24, [5, 7, 10, 14, 15, 19, 23], [])] () rfl (by kernel_rfl) (by kernel_rfl) F S.drew ?_ ?_ ?_ ?_ ?_
 · rintro ⟨⟩; rfl
 ·
  rintro ⟨⟩
  refine Eq.trans (b := [some (.slice Am ((nmsP lb.L).length) cm), some (.int .i64 ((nmsP lb.L).length : Nat)), some (pt bm 0), some (pt bm 0), some (pt bm 4), none, some (.int .i64 (lb.L.length : Nat)), none, some (.bool false), some (pt b 0), none, some (pt bm 0), some (pt bm 0), some (pt bm 3), none, none, some (.bool false), some (.bool false), some (pt b 0), none, some (pt bm 0), some (pt bm 0), some (pt bm 5), none, none, some (.bool false)]) ?_ ?_ <;> kernel_rfl
 ·
  intro D D' x h
  cases x
  rfl
 ·
  refine ⟨?_, ?_⟩
  ·
   refine ⟨_, rfl, rfl, by kernel_rfl, ?_⟩
   rintro D ⟨⟩ a z S F
   refine ⟨by kernel_rfl, ?_⟩
   exact op_ldk (some ⟨bm, 0, none⟩) 4 (.slice Bl lb.L.length cl) F rfl (cBox S 2 rfl (j := 4) rfl) (⟨(), rfl, (SameB.refl _ _ rfl), S⟩)
  refine ⟨?_, ?_⟩
  ·
   refine ⟨_, rfl, rfl, by kernel_rfl, ?_⟩
   rintro D ⟨⟩ a z S F
   refine ⟨by kernel_rfl, ?_⟩
   exact op_pk F (v0 := .bool ((((nmsP lb.L).length : Nat) : Int) != ((lb.L.length : Nat) : Int))) (v := .bool false) (neqF (congrArg Int.ofNat (nmsP_len lb.L))) ⟨(), rfl, (SameB.refl _ _ rfl), S⟩
  refine ⟨?_, ?_⟩
  ·
   refine ⟨_, rfl, rfl, by kernel_rfl, ?_⟩
   rintro D ⟨⟩ a z S F
   refine ⟨by kernel_rfl, ?_⟩
   have S : Sat w z [rest w G, lgA b g0 g1 lb, box bm 91 [pt m0 0, pt m1 0, .int .i64 (lb.on : Nat), .int .u32 (lb.life : Nat), .slice Bl lb.L.length cl, .int .i64 lb.dead], row 100 2 (.slice Bl lb.L.length cl) lb.L.length (lb.L.flatMap nvC), row 9 1 (.slice Am ((nmsP lb.L).length) cm) ((nmsP lb.L).length) ((nmsP lb.L).flatMap sC)] := S
   obtain ⟨G9, g9, hin9, hlt9, k9⟩ := S.frameB [1] (by decide) rfl
   refine op_fn F (by kernel_rfl) (llife_at _ g9) ?_
   rintro e z9 ⟨rfl, g⟩
   have S : Sat w z9 [rest w G, lgA b g0 g1 lb, box bm 91 [pt m0 0, pt m1 0, .int .i64 (lb.on : Nat), .int .u32 (lb.life : Nat), .slice Bl lb.L.length cl, .int .i64 lb.dead], row 100 2 (.slice Bl lb.L.length cl) lb.L.length (lb.L.flatMap nvC), row 9 1 (.slice Am ((nmsP lb.L).length) cm) ((nmsP lb.L).length) ((nmsP lb.L).flatMap sC)] := k9 z9 [lgA b g0 g1 lb] rfl g
   clear g g9 k9 hin9 hlt9
   exact ⟨_, rfl, (), rfl, (SameB.refl _ _ rfl), S⟩
  refine ⟨?_, ?_⟩
  ·
   refine ⟨_, rfl, rfl, by kernel_rfl, ?_⟩
   rintro D ⟨⟩ a z S F
   refine ⟨by kernel_rfl, ?_⟩
   exact op_ldk (some ⟨bm, 0, none⟩) 3 (.int .u32 (lb.life : Nat)) F rfl (cBox S 2 rfl (j := 3) rfl) (⟨(), rfl, (SameB.refl _ _ rfl), S⟩)
  refine ⟨?_, ?_⟩
  ·
   refine ⟨_, rfl, rfl, by kernel_rfl, ?_⟩
   rintro D ⟨⟩ a z S F
   refine ⟨by kernel_rfl, ?_⟩
   exact op_pk F (v0 := .bool (((lb.life : Nat) : Int) != ((lb.life : Nat) : Int))) (v := .bool false) (neqF rfl) ⟨(), rfl, (SameB.refl _ _ rfl), S⟩
  refine ⟨?_, ?_⟩
  ·
   refine ⟨_, rfl, rfl, by kernel_rfl, ?_⟩
   rintro D ⟨⟩ a z S F
   refine ⟨by kernel_rfl, ?_⟩
   have S : Sat w z [rest w G, lgA b g0 g1 lb, box bm 91 [pt m0 0, pt m1 0, .int .i64 (lb.on : Nat), .int .u32 (lb.life : Nat), .slice Bl lb.L.length cl, .int .i64 lb.dead], row 100 2 (.slice Bl lb.L.length cl) lb.L.length (lb.L.flatMap nvC), row 9 1 (.slice Am ((nmsP lb.L).length) cm) ((nmsP lb.L).length) ((nmsP lb.L).flatMap sC)] := S
   obtain ⟨G9, g9, hin9, hlt9, k9⟩ := S.frameB [1] (by decide) rfl
   refine op_fn F (by kernel_rfl) (ldead_at _ g9) ?_
   rintro e z9 ⟨rfl, g⟩
   have S : Sat w z9 [rest w G, lgA b g0 g1 lb, box bm 91 [pt m0 0, pt m1 0, .int .i64 (lb.on : Nat), .int .u32 (lb.life : Nat), .slice Bl lb.L.length cl, .int .i64 lb.dead], row 100 2 (.slice Bl lb.L.length cl) lb.L.length (lb.L.flatMap nvC), row 9 1 (.slice Am ((nmsP lb.L).length) cm) ((nmsP lb.L).length) ((nmsP lb.L).flatMap sC)] := k9 z9 [lgA b g0 g1 lb] rfl g
   clear g g9 k9 hin9 hlt9
   exact ⟨_, rfl, (), rfl, (SameB.refl _ _ rfl), S⟩
  refine ⟨?_, ?_⟩
  ·
   refine ⟨_, rfl, rfl, by kernel_rfl, ?_⟩
   rintro D ⟨⟩ a z S F
   refine ⟨by kernel_rfl, ?_⟩
   exact op_ldk (some ⟨bm, 0, none⟩) 5 (.int .i64 lb.dead) F rfl (cBox S 2 rfl (j := 5) rfl) (⟨(), rfl, (SameB.refl _ _ rfl), S⟩)
  refine ⟨?_, ?_⟩
  ·
   refine ⟨_, rfl, rfl, by kernel_rfl, ?_⟩
   rintro D ⟨⟩ a z S F
   refine ⟨by kernel_rfl, ?_⟩
   exact op_pk F (v0 := .bool ((lb.dead : Int) != (lb.dead : Int))) (v := .bool false) (neqF rfl) ⟨(), rfl, (SameB.refl _ _ rfl), S⟩
  trivial
 rintro ⟨⟩ a z F S
 have F := F.subk (l := [(0, pt b 0), (1, pt bm 0), (5, .slice Am ((nmsP lb.L).length) cm), (37, .bool false)])
 have S : Sat w z [rest w G, lgA b g0 g1 lb, box bm 91 [pt m0 0, pt m1 0, .int .i64 (lb.on : Nat), .int .u32 (lb.life : Nat), .slice Bl lb.L.length cl, .int .i64 lb.dead], row 100 2 (.slice Bl lb.L.length cl) lb.L.length (lb.L.flatMap nvC), row 9 1 (.slice Am ((nmsP lb.L).length) cm) ((nmsP lb.L).length) ((nmsP lb.L).flatMap sC)] := S
 refine then_n ?_
 refine c_f F rfl ?_
 refine wp_skip ?_
 refine then_n ?_
 refine wp_seq ?_
 refine s_reg ?_
 refine l_pk 3 (fun L => (40, pt bm 4) :: (39, pt bm 0) :: (38, pt bm 0) :: L) F fun a F => ?_
 refine l_do F rfl rfl (op_ldk (some ⟨bm, 0, none⟩) 4 (.slice Bl lb.L.length cl) F rfl (cBox S 2 rfl (j := 4) rfl) (fun a F => ?_))
 refine l_pk 2 (fun L => (43, .int .i64 0) :: (42, .int .i64 (lb.L.length : Nat)) :: L) F fun a F => ?_
 refine l_then ?_
 refine wp_block ?_
 refine wp_loop_m (fun m a z => ∃ (jj : Nat), m = lb.L.length - jj ∧ (jj ≤ lb.L.length) ∧ Fr a 74 [(0, pt b 0), (5, .slice Am ((nmsP lb.L).length) cm), (41, .slice Bl lb.L.length cl), (42, .int .i64 (lb.L.length : Nat)), (43, .int .i64 (jj : Nat))] ∧ Sat w z [rest w G, lgA b g0 g1 lb, box bm 91 [pt m0 0, pt m1 0, .int .i64 (lb.on : Nat), .int .u32 (lb.life : Nat), .slice Bl lb.L.length cl, .int .i64 lb.dead], row 100 2 (.slice Bl lb.L.length cl) lb.L.length (lb.L.flatMap nvC), row 9 1 (.slice Am ((nmsP lb.L).length) cm) ((nmsP lb.L).length) ((nmsP lb.L).flatMap sC)]) _ ⟨0, rfl, Nat.zero_le _, F.subk, S⟩ ?_
 rintro m a z ⟨jj, hm, hf1, F, S⟩
 have hjl := hf1
 refine s_reg ?_
 by_cases ht2 : ((jj : Nat) : Int) < ((lb.L.length : Nat) : Int)
 ·
  obtain ⟨y, hy⟩ : ∃ y, lb.L[jj]? = some y := ⟨_, List.getElem?_eq_getElem (by omega)⟩
  have hyv := ok.vl y (List.mem_of_getElem? hy)
  have hlm := nmsP_len lb.L
  refine l_do F rfl rfl (op_pk F (v0 := .bool (decide (((jj : Nat) : Int) < ((lb.L.length : Nat) : Int)))) (v := .bool true) (lssT ht2) fun a F => ?_)
  refine l_then ?_
  refine wp_seq ?_
  refine c_t F rfl ?_
  refine wp_skip ?_
  refine then_n ?_
  refine wp_seq ?_
  refine wp_block ?_
  refine s_reg ?_
  refine l_pk 1 (fun L => (45, .int .i64 (jj : Nat)) :: L) F fun a F => ?_
  refine l_do F rfl rfl (op_index _ 100 _ _ Bl lb.L.length cl jj 2 .i64 F rfl (by kernel_rfl) (by kernel_rfl) (by kernel_rfl) (by kernel_rfl) (get_lt hy) (row_some S 3 rfl (m := jj) (get_lt hy)) (fun a F => ?_))
  refine l_do F rfl rfl (op_loadK _ _ Bl (jj * 2) [strV y.1, strV y.2] F rfl (by kernel_rfl) (by kernel_rfl) (by kernel_rfl) (by simp) (cRecK0 S 3 nvC_len rfl hy (by kernel_rfl)) (fun a F => ?_))
  refine l_do F rfl rfl (op_alloc S _ (.agg #[strV ([] : Bs), strV ([] : Bs)]) rfl (by kernel_rfl) fun b3 z S a F => ?_)
  refine l_pk 1 (fun L => (6, .int .i64 (jj : Nat)) :: L) F fun a F => ?_
  refine l_do F rfl rfl (op_storeB S 5 _ _ _ b3 0 (.agg #[strV y.1, strV y.2]) F rfl rfl (by kernel_rfl) (by kernel_rfl) (by kernel_rfl) (by kernel_rfl) (by kernel_rfl) fun z S a F => ?_)
  refine l_then ?_
  refine s_reg ?_
  refine l_pk 2 (fun L => (50, pt b3 0) :: (49, pt b 0) :: L) F fun a F => ?_
  refine l_do F rfl rfl (op_ldk (some ⟨b3, 0, none⟩) 0 (strV y.1) F rfl (cBox S 5 rfl (j := 0) rfl) (fun a F => ?_))
  obtain ⟨G9, g9, hin9, hlt9, k9⟩ := S.frameB [1] (by decide) rfl
  refine l_do F rfl rfl (op_fn F (by kernel_rfl) (lget_of (rises_at ok.ri hy) (by omega) g9) ?_)
  rintro e z9 ⟨Ag, cg, rfl, g⟩
  have S : Sat w z9 [rest w G, star2 (lgA b g0 g1 lb) (row 5 1 (.slice Ag y.2.length cg) y.2.length (y.2.flatMap yC)), box bm 91 [pt m0 0, pt m1 0, .int .i64 (lb.on : Nat), .int .u32 (lb.life : Nat), .slice Bl lb.L.length cl, .int .i64 lb.dead], row 100 2 (.slice Bl lb.L.length cl) lb.L.length (lb.L.flatMap nvC), row 9 1 (.slice Am ((nmsP lb.L).length) cm) ((nmsP lb.L).length) ((nmsP lb.L).flatMap sC), box b3 100 [strV y.1, strV y.2]] := k9 z9 [star2 (lgA b g0 g1 lb) (row 5 1 (.slice Ag y.2.length cg) y.2.length (y.2.flatMap yC))] rfl g
  clear g g9 k9 hin9 hlt9
  have S := S.open2 (i := 1) rfl
  have S : Sat w z9 [rest w G, lgA b g0 g1 lb, box bm 91 [pt m0 0, pt m1 0, .int .i64 (lb.on : Nat), .int .u32 (lb.life : Nat), .slice Bl lb.L.length cl, .int .i64 lb.dead], row 100 2 (.slice Bl lb.L.length cl) lb.L.length (lb.L.flatMap nvC), row 9 1 (.slice Am ((nmsP lb.L).length) cm) ((nmsP lb.L).length) ((nmsP lb.L).flatMap sC), box b3 100 [strV y.1, strV y.2], row 5 1 (.slice Ag y.2.length cg) y.2.length (y.2.flatMap yC)] := S
  refine ⟨_, rfl, ?_⟩
  intro a F
  refine l_pk 5 (fun L => (9, .bool true) :: (8, .slice Ag y.2.length cg) :: (54, .bool true) :: (53, .slice Ag y.2.length cg) :: (48, .tuple #[.slice Ag y.2.length cg, .bool true]) :: L) F fun a F => ?_
  refine l_then ?_
  refine wp_seq ?_
  have hn4 : Option.isSome Bl = true := (row_some S 3 rfl (m := jj) (get_lt hy))
  refine region_gx (fun D => fun (_ : Unit) => [rest w G, lgA b g0 g1 lb, box bm 91 [pt m0 0, pt m1 0, .int .i64 (lb.on : Nat), .int .u32 (lb.life : Nat), .slice Bl lb.L.length cl, .int .i64 lb.dead], row 100 2 (.slice Bl lb.L.length cl) lb.L.length (lb.L.flatMap nvC), row 9 1 (.slice Am ((nmsP lb.L).length) cm) ((nmsP lb.L).length) ((nmsP lb.L).flatMap sC), box b3 100 [strV y.1, strV y.2], row 5 1 (.slice Ag y.2.length cg) y.2.length (y.2.flatMap yC)]) (fun (_ : Unit) => [.slice Am ((nmsP lb.L).length) cm, .int .i64 (jj : Nat), ptrA Am (jj * 1), strV y.1, pt b3 0, strV y.1, .bool false, .bool false, .bool true, .bool false, .bool false, .bool false, .slice Ag y.2.length cg, strV y.2, pt b3 1, strV y.2, .bool false, .bool false]) [(2, [], [3, 6, 13, 15, 16]), (3, [2], [6, 13, 15, 16]), (5, [], [6, 13, 15, 16]), (6, [2, 3, 5], [13, 15, 16]), (13, [2, 3, 5, 6], [16]), (15, [2, 3, 5, 6], [16]), (16, [2, 3, 5, 6, 13, 15], [])] () rfl (by kernel_rfl) (by kernel_rfl) F S.drew ?_ ?_ ?_ ?_ ?_
  · rintro ⟨⟩; rfl
  ·
   rintro ⟨⟩
   refine Eq.trans (b := [some (.slice Am ((nmsP lb.L).length) cm), some (.int .i64 (jj : Nat)), none, none, some (pt b3 0), none, none, some (.bool false), some (.bool true), some (.bool false), some (.bool false), some (.bool false), some (.slice Ag y.2.length cg), none, some (pt b3 1), none, none, some (.bool false)]) ?_ ?_ <;> kernel_rfl
  ·
   intro D D' x h
   cases x
   rfl
  ·
   refine ⟨?_, ?_⟩
   ·
    refine ⟨_, rfl, rfl, by kernel_rfl, ?_⟩
    rintro D ⟨⟩ a z S F
    refine ⟨by kernel_rfl, ?_⟩
    exact op_index _ 9 _ _ Am ((nmsP lb.L).length) cm jj 1 .i64 F rfl (by kernel_rfl) (by kernel_rfl) (by kernel_rfl) (by kernel_rfl) (get_lt (names_at hy)) (row_some S 4 rfl (m := jj) (get_lt (names_at hy))) (⟨(), rfl, (SameB.refl _ _ rfl), S⟩)
   refine ⟨?_, ?_⟩
   ·
    refine ⟨_, rfl, rfl, by kernel_rfl, ?_⟩
    rintro D ⟨⟩ a z S F
    refine ⟨by kernel_rfl, ?_⟩
    exact op_ldk Am (jj * 1) (strV y.1) F rfl (cRec S 4 sC_len rfl 0 (names_at hy) rfl) (⟨(), rfl, (SameB.refl _ _ rfl), S⟩)
   refine ⟨?_, ?_⟩
   ·
    refine ⟨_, rfl, rfl, by kernel_rfl, ?_⟩
    rintro D ⟨⟩ a z S F
    refine ⟨by kernel_rfl, ?_⟩
    exact op_ldk (some ⟨b3, 0, none⟩) 0 (strV y.1) F rfl (cBox S 5 rfl (j := 0) rfl) (⟨(), rfl, (SameB.refl _ _ rfl), S⟩)
   refine ⟨?_, ?_⟩
   ·
    refine ⟨_, rfl, rfl, by kernel_rfl, ?_⟩
    rintro D ⟨⟩ a z S F
    refine ⟨by kernel_rfl, ?_⟩
    exact op_sneq _ _ _ _ y.1 y.1 false F rfl (by kernel_rfl) (by kernel_rfl) (by rw [beq_iff_eq.2 rfl]; rfl) (⟨(), rfl, (SameB.refl _ _ rfl), S⟩)
   refine ⟨?_, ?_⟩
   ·
    refine ⟨_, rfl, rfl, by kernel_rfl, ?_⟩
    rintro D ⟨⟩ a z S F
    refine ⟨by kernel_rfl, ?_⟩
    exact op_tostr (Recs.ofRow (S.rowOf (i := 6) rfl) (by first | omega | decide | (simp only [List.length_cons, List.length_nil]; omega))) _ 5 _ _ F rfl (by kernel_rfl) (by kernel_rfl) (by kernel_rfl) (by kernel_rfl) (⟨(), rfl, (SameB.refl _ _ rfl), S⟩)
   refine ⟨?_, ?_⟩
   ·
    refine ⟨_, rfl, rfl, by kernel_rfl, ?_⟩
    rintro D ⟨⟩ a z S F
    refine ⟨by kernel_rfl, ?_⟩
    exact op_ldk (some ⟨b3, 0, none⟩) 1 (strV y.2) F rfl (cBox S 5 rfl (j := 1) rfl) (⟨(), rfl, (SameB.refl _ _ rfl), S⟩)
   refine ⟨?_, ?_⟩
   ·
    refine ⟨_, rfl, rfl, by kernel_rfl, ?_⟩
    rintro D ⟨⟩ a z S F
    refine ⟨by kernel_rfl, ?_⟩
    exact op_sneq _ _ _ _ y.2 y.2 false F rfl (by kernel_rfl) (by kernel_rfl) (by rw [beq_iff_eq.2 rfl]; rfl) (⟨(), rfl, (SameB.refl _ _ rfl), S⟩)
   trivial
  rintro ⟨⟩ a z F S
  have F := F.subk (l := [(0, pt b 0), (5, .slice Am ((nmsP lb.L).length) cm), (41, .slice Bl lb.L.length cl), (42, .int .i64 (lb.L.length : Nat)), (43, .int .i64 (jj : Nat)), (72, .bool false)])
  have S : Sat w z [rest w G, lgA b g0 g1 lb, box bm 91 [pt m0 0, pt m1 0, .int .i64 (lb.on : Nat), .int .u32 (lb.life : Nat), .slice Bl lb.L.length cl, .int .i64 lb.dead], row 100 2 (.slice Bl lb.L.length cl) lb.L.length (lb.L.flatMap nvC), row 9 1 (.slice Am ((nmsP lb.L).length) cm) ((nmsP lb.L).length) ((nmsP lb.L).flatMap sC), box b3 100 [strV y.1, strV y.2], row 5 1 (.slice Ag y.2.length cg) y.2.length (y.2.flatMap yC)] := S
  refine then_n ?_
  refine c_f F rfl ?_
  refine wp_skip ?_
  refine inb_n ?_
  refine then_n ?_
  refine wp_region_list ?_
  refine l_do F rfl rfl (op_pk F (v0 := .int .i64 (IntKind.wrap .i64 ((jj : Nat) + 1))) (v := .int .i64 (jj + 1 : Nat)) (wrn_i64 (by omega) (by omega) (by omega)) fun a F => ?_)
  refine l_pk 1 (fun L => (43, .int .i64 (jj + 1 : Nat)) :: L) F fun a F => ?_
  refine l_then ?_
  exact ⟨_, (by omega), (jj + 1), rfl, (by omega), F.subk, (S.pick [0, 1, 2, 3, 4] (by decide))⟩
 refine l_do F rfl rfl (op_pk F (v0 := .bool (decide (((jj : Nat) : Int) < ((lb.L.length : Nat) : Int)))) (v := .bool false) (lssF ht2) fun a F => ?_)
 refine l_then ?_
 refine wp_seq ?_
 refine c_f F rfl ?_
 refine wp_exit ?_
 refine then_x ?_
 refine then_x ?_
 refine inb_x ?_
 refine then_n ?_
 refine s_reg ?_
 refine l_pk 1 (fun L => (4, .bool true) :: L) F fun a F => ?_
 refine l_then ?_
 refine wp_ret ?_
 have S : Sat w z ([rest w G, lgA b g0 g1 lb] ++ [rlBox bm m0 m1 lb.on lb.life Bl lb.L.length cl lb.dead, row 100 2 (.slice Bl lb.L.length cl) lb.L.length (lb.L.flatMap nvC)]) := S.pick [0, 1, 2, 3] (by decide)
 have S := rl_shutL S
 exact fin F [.tmp 4] [.bool true] rfl ⟨by kernel_rfl, trivial⟩ (.bool true) rfl ⟨rfl, S.pick [1, 2, 0] (by decide)⟩
set_option maxRecDepth 100000 in
set_option maxHeartbeats 4000000 in
theorem plays17_law (w : World) (Ao : Option Addr) (co : Nat) (O : List OpV) (hO : Recs 9 opC w Ao co O) (hOk : ∀ o ∈ O, StOk o) : Calls Try.prog 6 #[.slice Ao O.length co] w fun e w' => e = .returned (.bool true) ∧ Below w.heap.size w w' := by
 refine enter 235 Try.func6 rfl rfl rfl fun a F => ?_
 have S := Sat.pushRest w
 refine s_reg ?_
 refine l_pk 1 (fun L => (2, .bool false) :: L) F fun a F => ?_
 refine l_then ?_
 refine s_reg ?_
 refine l_do F rfl rfl (op_fn F (by kernel_rfl) (snew_at S) ?_)
 rintro e z ⟨g0, rfl, S⟩
 refine ⟨_, rfl, ?_⟩
 intro a F
 refine l_do F rfl rfl (op_fn F (by kernel_rfl) (snew_at S) ?_)
 rintro e z ⟨g1, rfl, S⟩
 refine ⟨_, rfl, ?_⟩
 intro a F
 refine l_pk 1 (fun L => (16, .agg #[pt g0 0, pt g1 0]) :: L) F fun a F => ?_
 refine l_do F rfl rfl (op_fn F (by kernel_rfl) (rnew_at S) ?_)
 rintro e z ⟨m0, rfl, S⟩
 refine ⟨_, rfl, ?_⟩
 intro a F
 refine l_do F rfl rfl (op_fn F (by kernel_rfl) (rnew_at S) ?_)
 rintro e z ⟨m1, rfl, S⟩
 refine ⟨_, rfl, ?_⟩
 intro a F
 refine l_pk 1 (fun L => (19, .agg #[pt m0 0, pt m1 0]) :: L) F fun a F => ?_
 refine l_do F rfl rfl (op_alloc S _ (.agg #[.pointer none, .pointer none]) rfl (by kernel_rfl) fun b1 z S a F => ?_)
 refine l_do F rfl rfl (op_alloc S _ (.agg #[.pointer none, .pointer none]) rfl (by kernel_rfl) fun b2 z S a F => ?_)
 refine l_do F rfl rfl (op_storeB S 5 _ _ _ b1 0 (.agg #[pt g0 0, pt g1 0]) F rfl rfl (by kernel_rfl) (by kernel_rfl) (by kernel_rfl) (by kernel_rfl) (by kernel_rfl) fun z S a F => ?_)
 refine l_do F rfl rfl (op_storeB S 6 _ _ _ b2 0 (.agg #[pt m0 0, pt m1 0]) F rfl rfl (by kernel_rfl) (by kernel_rfl) (by kernel_rfl) (by kernel_rfl) (by kernel_rfl) fun z S a F => ?_)
 refine l_then ?_
 refine s_reg ?_
 refine l_pk 1 (fun L => (21, pt b1 0) :: L) F fun a F => ?_
 refine l_do F rfl rfl (op_ldk (some ⟨b1, 0, none⟩) 0 (pt g0 0) F rfl (cBox S 5 rfl (j := 0) rfl) (fun a F => ?_))
 refine l_pk 1 (fun L => (23, pt b1 1) :: L) F fun a F => ?_
 refine l_do F rfl rfl (op_ldk (some ⟨b1, 0, none⟩) 1 (pt g1 0) F rfl (cBox S 5 rfl (j := 1) rfl) (fun a F => ?_))
 obtain ⟨G9, g9, hin9, hlt9, k9⟩ := S.frameB [1, 2] (by decide) rfl
 refine l_do F rfl rfl (op_fn F (by kernel_rfl) (lopen_ok 3 (.mono .new (by decide)) (.mono .new (by decide)) (by decide) rfl rfl aw1_ok g9) ?_)
 rintro e z9 ⟨bl1, rfl, g⟩
 have S : Sat w z9 [rest w (· < w.heap.size), star2 (sdA g0 aw1.s0) (lgA bl1 g0 g1 aw1.lb), sdA g1 aw1.s1, rsA m0 Sd.new, rsA m1 Sd.new, box b1 48 [pt g0 0, pt g1 0], box b2 54 [pt m0 0, pt m1 0]] := k9 z9 [star2 (sdA g0 aw1.s0) (lgA bl1 g0 g1 aw1.lb), sdA g1 aw1.s1] rfl g
 clear g g9 k9 hin9 hlt9
 have S := S.open2 (i := 1) rfl
 have S : Sat w z9 [rest w (· < w.heap.size), sdA g0 aw1.s0, sdA g1 aw1.s1, rsA m0 Sd.new, rsA m1 Sd.new, box b1 48 [pt g0 0, pt g1 0], box b2 54 [pt m0 0, pt m1 0], lgA bl1 g0 g1 aw1.lb] := S
 refine ⟨_, rfl, ?_⟩
 intro a F
 refine l_pk 5 (fun L => (6, .int .i64 0) :: (5, pt bl1 0) :: (27, .int .i64 0) :: (26, pt bl1 0) :: (20, .tuple #[pt bl1 0, .int .i64 0]) :: L) F fun a F => ?_
 refine l_then ?_
 refine s_reg ?_
 refine l_pk 1 (fun L => (29, pt b2 0) :: L) F fun a F => ?_
 refine l_do F rfl rfl (op_ldk (some ⟨b2, 0, none⟩) 0 (pt m0 0) F rfl (cBox S 6 rfl (j := 0) rfl) (fun a F => ?_))
 refine l_pk 1 (fun L => (31, pt b2 1) :: L) F fun a F => ?_
 refine l_do F rfl rfl (op_ldk (some ⟨b2, 0, none⟩) 1 (pt m1 0) F rfl (cBox S 6 rfl (j := 1) rfl) (fun a F => ?_))
 obtain ⟨G9, g9, hin9, hlt9, k9⟩ := S.frameB [3, 4] (by decide) rfl
 refine l_do F rfl rfl (op_fn F (by kernel_rfl) (ropen_ok 3 (.mono .new (by decide)) (.mono .new (by decide)) (by decide) rfl rfl aw1_ok g9) ?_)
 rintro e z9 ⟨bm1, rfl, g⟩
 have S : Sat w z9 [rest w (· < w.heap.size), sdA g0 aw1.s0, sdA g1 aw1.s1, star2 (rsA m0 aw1.s0) (rlA bm1 m0 m1 aw1.lb), rsA m1 aw1.s1, box b1 48 [pt g0 0, pt g1 0], box b2 54 [pt m0 0, pt m1 0], lgA bl1 g0 g1 aw1.lb] := k9 z9 [star2 (rsA m0 aw1.s0) (rlA bm1 m0 m1 aw1.lb), rsA m1 aw1.s1] rfl g
 clear g g9 k9 hin9 hlt9
 have S := S.open2 (i := 3) rfl
 have S : Sat w z9 [rest w (· < w.heap.size), sdA g0 aw1.s0, sdA g1 aw1.s1, rsA m0 aw1.s0, rsA m1 aw1.s1, box b1 48 [pt g0 0, pt g1 0], box b2 54 [pt m0 0, pt m1 0], lgA bl1 g0 g1 aw1.lb, rlA bm1 m0 m1 aw1.lb] := S
 refine ⟨_, rfl, ?_⟩
 intro a F
 refine l_pk 5 (fun L => (8, .int .i64 0) :: (7, pt bm1 0) :: (35, .int .i64 0) :: (34, pt bm1 0) :: (28, .tuple #[pt bm1 0, .int .i64 0]) :: L) F fun a F => ?_
 refine l_then ?_
 refine wp_seq ?_
 refine s_reg ?_
 refine l_pk 7 (fun L => (42, .bool false) :: (41, .bool false) :: (40, .int .i64 0) :: (39, .int .i64 0) :: (38, .bool false) :: (37, .bool false) :: (36, pt bl1 0) :: L) F fun a F => ?_
 refine l_then ?_
 refine c_f F rfl ?_
 refine wp_skip ?_
 refine then_n ?_
 refine wp_seq ?_
 refine s_reg ?_
 refine l_pk 3 (fun L => (45, .int .i64 0) :: (44, .int .i64 (O.length : Nat)) :: (43, .slice Ao O.length co) :: L) F fun a F => ?_
 refine l_then ?_
 refine wp_block ?_
 refine wp_loop_m (fun m a z => ∃ (ii : Nat) (xx : Lg) (al : Bool) (bb : Nat) (bn : Nat), m = O.length - ii ∧ (ii ≤ O.length) ∧ (ii ≤ 40) ∧ (xx.s0.In (4 * (ii : Int) + 3)) ∧ (xx.s1.In (4 * (ii : Int) + 3)) ∧ (al = true → LbOk xx.lb (262144 + ii)) ∧ Fr a 235 [(3, pt b1 0), (4, pt b2 0), (5, bif al then pt bb 0 else .pointer none), (7, bif al then pt bn 0 else .pointer none), (43, .slice Ao O.length co), (44, .int .i64 (O.length : Nat)), (45, .int .i64 (ii : Nat))] ∧ Sat w z [rest w (· < w.heap.size), box b1 48 [pt g0 0, pt g1 0], box b2 54 [pt m0 0, pt m1 0], sdA g0 xx.s0, sdA g1 xx.s1, rsA m0 xx.s0, rsA m1 xx.s1, bif al then lgA bb g0 g1 xx.lb else emp, bif al then rlA bn m0 m1 xx.lb else emp]) _ ⟨0, aw1, true, bl1, bm1, rfl, Nat.zero_le _, (by decide), aw1_in.1, aw1_in.2, (fun _ => aw1_lb), F.subk, (S.pick [0, 5, 6, 1, 2, 3, 4, 7, 8] (by decide))⟩ ?_
 rintro m a z ⟨ii, xx, al, bb, bn, hm, hf3, hf4, hf5, hf6, hf7, F, S⟩
 obtain ⟨hil, hi40, hi0, hi1, hlb⟩ := And.intro hf3 (And.intro hf4 (And.intro hf5 (And.intro hf6 hf7)))
 refine s_reg ?_
 by_cases ht8 : ((ii : Nat) : Int) < ((O.length : Nat) : Int)
 ·
  obtain ⟨o, ho⟩ : ∃ o, O[ii]? = some o := ⟨_, List.getElem?_eq_getElem (by omega)⟩
  have hok := hOk o (List.mem_of_getElem? ho)
  refine l_do F rfl rfl (op_pk F (v0 := .bool (decide (((ii : Nat) : Int) < ((O.length : Nat) : Int)))) (v := .bool true) (lssT ht8) fun a F => ?_)
  refine l_then ?_
  refine wp_seq ?_
  refine c_t F rfl ?_
  refine wp_skip ?_
  refine then_n ?_
  refine wp_seq ?_
  refine wp_block ?_
  refine s_reg ?_
  refine l_pk 1 (fun L => (47, .int .i64 (ii : Nat)) :: L) F fun a F => ?_
  refine l_do F rfl rfl (op_index _ 33 _ _ Ao O.length co ii 9 .i64 F rfl (by kernel_rfl) (by kernel_rfl) (by kernel_rfl) (by kernel_rfl) (get_lt ho) (recs_some hO (m := ii) (get_lt ho)) (fun a F => ?_))
  refine l_do F rfl rfl (op_loadK _ _ Ao (ii * 9) [.int .i64 o.kind, strV o.nm, strV o.vl, .int .u8 (o.wh : Nat), .int .i64 o.n, .int .i64 o.k0, .int .i64 o.k1, .int .i64 o.z0, .int .i64 o.z1] F rfl (by kernel_rfl) (by kernel_rfl) (by kernel_rfl) (by simp) (cOldK0 S 0 opC_len hO rfl ho (by kernel_rfl)) (fun a F => ?_))
  refine l_do F rfl rfl (op_alloc S _ (.agg #[.int .i64 0, strV ([] : Bs), strV ([] : Bs), .int .u8 0, .int .i64 0, .int .i64 0, .int .i64 0, .int .i64 0, .int .i64 0]) rfl (by kernel_rfl) fun b9 z S a F => ?_)
  refine l_pk 1 (fun L => (9, .int .i64 (ii : Nat)) :: L) F fun a F => ?_
  refine l_do F rfl rfl (op_storeB S 9 _ _ _ b9 0 (.agg #[.int .i64 o.kind, strV o.nm, strV o.vl, .int .u8 (o.wh : Nat), .int .i64 o.n, .int .i64 o.k0, .int .i64 o.k1, .int .i64 o.z0, .int .i64 o.z1]) F rfl rfl (by kernel_rfl) (by kernel_rfl) (by kernel_rfl) (by kernel_rfl) (by kernel_rfl) fun z S a F => ?_)
  refine l_then ?_
  refine wp_seq ?_
  refine s_reg ?_
  refine l_pk 1 (fun L => (50, .int .i64 (ii : Nat)) :: L) F fun a F => ?_
  by_cases ht10 : (40 : Int) ≤ ((ii : Nat) : Int)
  ·
   refine l_do F rfl rfl (op_pk F (v0 := .bool (decide (((ii : Nat) : Int) ≥ (40 : Int)))) (v := .bool true) (geqT ht10) fun a F => ?_)
   refine l_pk 5 (fun L => (56, .bool true) :: (55, undef) :: (54, undef) :: (53, undef) :: (52, .bool true) :: L) F fun a F => ?_
   refine l_then ?_
   refine c_t F rfl ?_
   refine wp_exit ?_
   refine then_x ?_
   refine inb_xo (by kernel_rfl) ?_
   refine then_x ?_
   refine then_x ?_
   refine inb_x ?_
   refine then_n ?_
   refine s_reg ?_
   refine l_do F rfl rfl (op_fn F (by kernel_rfl) (awake17 _) ?_)
   rintro e z ⟨rfl, hb⟩
   have S := S.grow hb
   refine ⟨_, rfl, ?_⟩
   intro a F
   refine l_pk 1 (fun L => (2, .bool true) :: L) F fun a F => ?_
   refine l_then ?_
   refine wp_ret ?_
   exact fin F [.tmp 2] [.bool true] rfl ⟨by kernel_rfl, trivial⟩ (.bool true) rfl ⟨rfl, S.below (i := 0) rfl⟩
  refine l_do F rfl rfl (op_pk F (v0 := .bool (decide (((ii : Nat) : Int) ≥ (40 : Int)))) (v := .bool false) (geqF ht10) fun a F => ?_)
  refine l_pk 1 (fun L => (52, .bool false) :: L) F fun a F => ?_
  refine l_do F rfl rfl (op_loadK _ _ (some ⟨b9, 0, none⟩) 0 [.int .i64 o.kind, strV o.nm, strV o.vl, .int .u8 (o.wh : Nat), .int .i64 o.n, .int .i64 o.k0, .int .i64 o.k1, .int .i64 o.z0, .int .i64 o.z1] F rfl (by kernel_rfl) (by kernel_rfl) (by kernel_rfl) (by simp) (cBoxK S 9 rfl 0 (by kernel_rfl)) (fun a F => ?_))
  cases hb11 : (fitsB o.nm o.vl) with
  | false =>
   refine l_do F rfl rfl (op_fn F (by kernel_rfl) (fits17 _ o) ?_)
   rintro e z ⟨rfl, hb⟩
   have S := S.grow hb
   refine ⟨_, rfl, ?_⟩
   rw [hb11]
   intro a F
   refine l_pk 2 (fun L => (56, .bool true) :: (55, .bool true) :: L) F fun a F => ?_
   refine l_then ?_
   refine c_t F rfl ?_
   refine wp_exit ?_
   refine then_x ?_
   refine inb_xo (by kernel_rfl) ?_
   refine then_x ?_
   refine then_x ?_
   refine inb_x ?_
   refine then_n ?_
   refine s_reg ?_
   refine l_do F rfl rfl (op_fn F (by kernel_rfl) (awake17 _) ?_)
   rintro e z ⟨rfl, hb⟩
   have S := S.grow hb
   refine ⟨_, rfl, ?_⟩
   intro a F
   refine l_pk 1 (fun L => (2, .bool true) :: L) F fun a F => ?_
   refine l_then ?_
   refine wp_ret ?_
   exact fin F [.tmp 2] [.bool true] rfl ⟨by kernel_rfl, trivial⟩ (.bool true) rfl ⟨rfl, S.below (i := 0) rfl⟩
  | true =>
   obtain ⟨hfn, hfv⟩ := fits_t hb11
   refine l_do F rfl rfl (op_fn F (by kernel_rfl) (fits17 _ o) ?_)
   rintro e z ⟨rfl, hb⟩
   have S := S.grow hb
   refine ⟨_, rfl, ?_⟩
   rw [hb11]
   intro a F
   refine l_pk 2 (fun L => (56, .bool false) :: (55, .bool false) :: L) F fun a F => ?_
   refine l_then ?_
   refine c_f F rfl ?_
   refine wp_skip ?_
   refine then_n ?_
   refine s_reg ?_
   refine l_pk 1 (fun L => (57, pt b9 3) :: L) F fun a F => ?_
   refine l_do F rfl rfl (op_ldk (some ⟨b9, 0, none⟩) 3 (.int .u8 (o.wh : Nat)) F rfl (cBox S 9 rfl (j := 3) rfl) (fun a F => ?_))
   rcases wh_cases o.wh with hw | hw
   ·
    refine l_do F rfl rfl (op_rem _ _ _ _ .u8 (o.wh : Nat) 2 F rfl (by kernel_rfl) (by kernel_rfl) (by omega) ((Int.tmod_eq_emod_of_nonneg (by omega)).trans (show ((o.wh : Nat) : Int) % 2 = 0 from by omega)) (fun a F => ?_))
    refine l_pk 2 (fun L => (11, .int .i64 0) :: (60, .int .i64 0) :: L) F fun a F => ?_
    refine l_then ?_
    refine cutK 2 (fun a z => ∃ (yy : Lg) (al2 : Bool) (bc : Nat) (bd : Nat), (yy.s0.In (4 * ((ii + 1 : Nat) : Int) + 3)) ∧ (yy.s1.In (4 * ((ii + 1 : Nat) : Int) + 3)) ∧ (al2 = true → LbOk yy.lb (262144 + (ii + 1))) ∧ Fr a 235 [(3, pt b1 0), (4, pt b2 0), (5, bif al2 then pt bc 0 else .pointer none), (7, bif al2 then pt bd 0 else .pointer none), (12, .bool true), (43, .slice Ao O.length co), (44, .int .i64 (O.length : Nat)), (45, .int .i64 (ii : Nat))] ∧ Sat w z [rest w (· < w.heap.size), box b1 48 [pt g0 0, pt g1 0], box b2 54 [pt m0 0, pt m1 0], sdA g0 yy.s0, sdA g1 yy.s1, rsA m0 yy.s0, rsA m1 yy.s1, bif al2 then lgA bc g0 g1 yy.lb else emp, bif al2 then rlA bd m0 m1 yy.lb else emp]) ?_ ?_
    ·
     rintro a z ⟨yy, al2, bc, bd, hf12, hf13, hf14, F, S⟩
     dsimp only [tailAt]
     obtain ⟨hi0, hi1, hlb⟩ := And.intro hf12 (And.intro hf13 hf14)
     refine s_reg ?_
     refine l_pk 4 (fun L => (208, pt b1 0) :: (207, .bool false) :: (206, .bool false) :: (205, .bool true) :: L) F fun a F => ?_
     refine l_do F rfl rfl (op_ldk (some ⟨b1, 0, none⟩) 0 (pt g0 0) F rfl (cBox S 1 rfl (j := 0) rfl) (fun a F => ?_))
     refine l_pk 1 (fun L => (210, pt b2 0) :: L) F fun a F => ?_
     refine l_do F rfl rfl (op_ldk (some ⟨b2, 0, none⟩) 0 (pt m0 0) F rfl (cBox S 2 rfl (j := 0) rfl) (fun a F => ?_))
     refine l_do F rfl rfl (op_fn F (by kernel_rfl) (is_sat S (i := 3) (j := 5) rfl rfl hi0 (by omega)) ?_)
     rintro e z ⟨rfl, S⟩
     refine ⟨_, rfl, ?_⟩
     intro a F
     refine l_pk 4 (fun L => (216, pt b1 1) :: (215, .bool false) :: (214, .bool false) :: (213, .bool false) :: L) F fun a F => ?_
     refine l_do F rfl rfl (op_ldk (some ⟨b1, 0, none⟩) 1 (pt g1 0) F rfl (cBox S 1 rfl (j := 1) rfl) (fun a F => ?_))
     refine l_pk 1 (fun L => (218, pt b2 1) :: L) F fun a F => ?_
     refine l_do F rfl rfl (op_ldk (some ⟨b2, 0, none⟩) 1 (pt m1 0) F rfl (cBox S 2 rfl (j := 1) rfl) (fun a F => ?_))
     refine l_do F rfl rfl (op_fn F (by kernel_rfl) (is_sat S (i := 4) (j := 6) rfl rfl hi1 (by omega)) ?_)
     rintro e z ⟨rfl, S⟩
     refine ⟨_, rfl, ?_⟩
     intro a F
     refine l_pk 4 (fun L => (224, bif al2 then pt bd 0 else .pointer none) :: (223, .bool false) :: (222, .bool false) :: (221, .bool false) :: L) F fun a F => ?_
     cases al2 with
     | false =>
      skip
      have S : Sat w z [rest w (· < w.heap.size), box b1 48 [pt g0 0, pt g1 0], box b2 54 [pt m0 0, pt m1 0], sdA g0 yy.s0, sdA g1 yy.s1, rsA m0 yy.s0, rsA m1 yy.s1, emp, emp] := S
      refine l_pk 8 (fun L => (232, .bool false) :: (231, .bool false) :: (230, undef) :: (229, undef) :: (228, undef) :: (227, undef) :: (226, .bool false) :: (225, .bool false) :: L) F fun a F => ?_
      refine l_then ?_
      refine c_f F rfl ?_
      refine wp_skip ?_
      refine inb_n ?_
      refine then_n ?_
      refine wp_region_list ?_
      refine l_do F rfl rfl (op_pk F (v0 := .int .i64 (IntKind.wrap .i64 ((ii : Nat) + 1))) (v := .int .i64 (ii + 1 : Nat)) (wrn_i64 (by omega) (by omega) (by omega)) fun a F => ?_)
      refine l_pk 1 (fun L => (45, .int .i64 (ii + 1 : Nat)) :: L) F fun a F => ?_
      refine l_then ?_
      exact ⟨_, (by omega), (ii + 1), yy, false, bc, bd, rfl, (by omega), (by omega), hi0, hi1, nofun, F.subk, (S.pick [0, 1, 2, 3, 4, 5, 6, 7, 8] (by decide))⟩
     | true =>
      skip
      have S : Sat w z [rest w (· < w.heap.size), box b1 48 [pt g0 0, pt g1 0], box b2 54 [pt m0 0, pt m1 0], sdA g0 yy.s0, sdA g1 yy.s1, rsA m0 yy.s0, rsA m1 yy.s1, lgA bc g0 g1 yy.lb, rlA bd m0 m1 yy.lb] := S
      have hlb := hlb rfl
      have hlb9 := hlb.up (m := 900000) (by omega)
      refine l_pk 4 (fun L => (228, pt bd 0) :: (227, pt bc 0) :: (226, .bool true) :: (225, .bool true) :: L) F fun a F => ?_
      obtain ⟨G9, g9, hin9, hlt9, k9⟩ := S.frameB [7, 8] (by decide) rfl
      refine l_do F rfl rfl (op_fn F (by kernel_rfl) (same17 _ G9 bc g0 g1 bd m0 m1 yy.lb hlb9 g9) ?_)
      rintro e z9 ⟨rfl, g⟩
      have S : Sat w z9 [rest w (· < w.heap.size), box b1 48 [pt g0 0, pt g1 0], box b2 54 [pt m0 0, pt m1 0], sdA g0 yy.s0, sdA g1 yy.s1, rsA m0 yy.s0, rsA m1 yy.s1, lgA bc g0 g1 yy.lb, rlA bd m0 m1 yy.lb] := k9 z9 [lgA bc g0 g1 yy.lb, rlA bd m0 m1 yy.lb] rfl g
      clear g g9 k9 hin9 hlt9
      refine ⟨_, rfl, ?_⟩
      intro a F
      refine l_pk 3 (fun L => (232, .bool false) :: (231, .bool false) :: (230, .bool false) :: L) F fun a F => ?_
      refine l_then ?_
      refine c_f F rfl ?_
      refine wp_skip ?_
      refine inb_n ?_
      refine then_n ?_
      refine wp_region_list ?_
      refine l_do F rfl rfl (op_pk F (v0 := .int .i64 (IntKind.wrap .i64 ((ii : Nat) + 1))) (v := .int .i64 (ii + 1 : Nat)) (wrn_i64 (by omega) (by omega) (by omega)) fun a F => ?_)
      refine l_pk 1 (fun L => (45, .int .i64 (ii + 1 : Nat)) :: L) F fun a F => ?_
      refine l_then ?_
      exact ⟨_, (by omega), (ii + 1), yy, true, bc, bd, rfl, (by omega), (by omega), hi0, hi1, (fun _ => hlb), F.subk, (S.pick [0, 1, 2, 3, 4, 5, 6, 7, 8] (by decide))⟩
    intro hcut33
    dsimp only [tailAt] at hcut33
    refine s_reg ?_
    refine l_pk 1 (fun L => (12, .bool true) :: L) F fun a F => ?_
    refine l_then ?_
    refine wp_seq ?_
    refine wp_block ?_
    refine s_reg ?_
    refine l_pk 1 (fun L => (62, pt b9 0) :: L) F fun a F => ?_
    refine l_do F rfl rfl (op_ldk (some ⟨b9, 0, none⟩) 0 (.int .i64 o.kind) F rfl (cBox S 9 rfl (j := 0) rfl) (fun a F => ?_))
    by_cases ht15 : (o.kind : Int) = (0 : Int)
    ·
     refine l_do F rfl rfl (op_pk F (v0 := .bool ((o.kind : Int) == (0 : Int))) (v := .bool true) (eqlT ht15) fun a F => ?_)
     refine l_pk 2 (fun L => (66, bif al then pt bn 0 else .pointer none) :: (65, .bool true) :: L) F fun a F => ?_
     cases al with
     | false =>
      skip
      have S : Sat w z [rest w (· < w.heap.size), box b1 48 [pt g0 0, pt g1 0], box b2 54 [pt m0 0, pt m1 0], sdA g0 xx.s0, sdA g1 xx.s1, rsA m0 xx.s0, rsA m1 xx.s1, emp, emp, box b9 33 [.int .i64 o.kind, strV o.nm, strV o.vl, .int .u8 (o.wh : Nat), .int .i64 o.n, .int .i64 o.k0, .int .i64 o.k1, .int .i64 o.z0, .int .i64 o.z1]] := S
      refine l_pk 3 (fun L => (61, .bool false) :: (68, .bool false) :: (67, .bool false) :: L) F fun a F => ?_
      refine l_then ?_
      refine c_f F rfl ?_
      refine s_reg ?_
      refine l_pk 1 (fun L => (84, pt b9 0) :: L) F fun a F => ?_
      refine l_do F rfl rfl (op_ldk (some ⟨b9, 0, none⟩) 0 (.int .i64 o.kind) F rfl (cBox S 9 rfl (j := 0) rfl) (fun a F => ?_))
      refine l_do F rfl rfl (op_pk F (v0 := .bool ((o.kind : Int) == (1 : Int))) (v := .bool false) (eqlF (by omega)) fun a F => ?_)
      refine l_pk 5 (fun L => (83, .bool false) :: (90, .bool false) :: (89, undef) :: (88, undef) :: (87, .bool false) :: L) F fun a F => ?_
      refine l_then ?_
      refine c_f F rfl ?_
      refine s_reg ?_
      refine l_pk 1 (fun L => (101, pt b9 0) :: L) F fun a F => ?_
      refine l_do F rfl rfl (op_ldk (some ⟨b9, 0, none⟩) 0 (.int .i64 o.kind) F rfl (cBox S 9 rfl (j := 0) rfl) (fun a F => ?_))
      refine l_do F rfl rfl (op_pk F (v0 := .bool ((o.kind : Int) == (2 : Int))) (v := .bool false) (eqlF (by omega)) fun a F => ?_)
      refine l_pk 5 (fun L => (100, .bool false) :: (107, .bool false) :: (106, undef) :: (105, undef) :: (104, .bool false) :: L) F fun a F => ?_
      refine l_then ?_
      refine c_f F rfl ?_
      refine s_reg ?_
      refine l_pk 1 (fun L => (114, pt b9 0) :: L) F fun a F => ?_
      refine l_do F rfl rfl (op_ldk (some ⟨b9, 0, none⟩) 0 (.int .i64 o.kind) F rfl (cBox S 9 rfl (j := 0) rfl) (fun a F => ?_))
      refine l_do F rfl rfl (op_pk F (v0 := .bool ((o.kind : Int) == (3 : Int))) (v := .bool false) (eqlF (by omega)) fun a F => ?_)
      refine l_pk 5 (fun L => (113, .bool false) :: (120, .bool false) :: (119, undef) :: (118, undef) :: (117, .bool false) :: L) F fun a F => ?_
      refine l_then ?_
      refine c_f F rfl ?_
      refine s_reg ?_
      refine l_pk 1 (fun L => (127, pt b9 0) :: L) F fun a F => ?_
      refine l_do F rfl rfl (op_ldk (some ⟨b9, 0, none⟩) 0 (.int .i64 o.kind) F rfl (cBox S 9 rfl (j := 0) rfl) (fun a F => ?_))
      refine l_do F rfl rfl (op_pk F (v0 := .bool ((o.kind : Int) == (4 : Int))) (v := .bool false) (eqlF (by omega)) fun a F => ?_)
      refine l_pk 1 (fun L => (126, .bool false) :: L) F fun a F => ?_
      refine l_then ?_
      refine c_f F rfl ?_
      refine s_reg ?_
      refine l_pk 1 (fun L => (141, pt b9 0) :: L) F fun a F => ?_
      refine l_do F rfl rfl (op_ldk (some ⟨b9, 0, none⟩) 0 (.int .i64 o.kind) F rfl (cBox S 9 rfl (j := 0) rfl) (fun a F => ?_))
      refine l_do F rfl rfl (op_pk F (v0 := .bool ((o.kind : Int) == (5 : Int))) (v := .bool false) (eqlF (by omega)) fun a F => ?_)
      refine l_pk 1 (fun L => (140, .bool false) :: L) F fun a F => ?_
      refine l_then ?_
      refine c_f F rfl ?_
      refine s_reg ?_
      refine l_pk 1 (fun L => (191, pt b9 0) :: L) F fun a F => ?_
      refine l_do F rfl rfl (op_ldk (some ⟨b9, 0, none⟩) 0 (.int .i64 o.kind) F rfl (cBox S 9 rfl (j := 0) rfl) (fun a F => ?_))
      refine l_do F rfl rfl (op_pk F (v0 := .bool ((o.kind : Int) == (6 : Int))) (v := .bool false) (eqlF (by omega)) fun a F => ?_)
      refine l_pk 1 (fun L => (190, .bool false) :: L) F fun a F => ?_
      refine l_then ?_
      refine c_f F rfl ?_
      refine wp_skip ?_
      refine inb_n ?_
      refine then_n ?_
      exact hcut33 _ _ ⟨(⟨xx.lb, xx.s0, xx.s1⟩ : Lg), false, bb, bn, (hi0.mono (by omega)), (hi1.mono (by omega)), nofun, F.subk, (S.pick [0, 1, 2, 3, 4, 5, 6, 7, 8] (by decide))⟩
     | true =>
      skip
      have S : Sat w z [rest w (· < w.heap.size), box b1 48 [pt g0 0, pt g1 0], box b2 54 [pt m0 0, pt m1 0], sdA g0 xx.s0, sdA g1 xx.s1, rsA m0 xx.s0, rsA m1 xx.s1, lgA bb g0 g1 xx.lb, rlA bn m0 m1 xx.lb, box b9 33 [.int .i64 o.kind, strV o.nm, strV o.vl, .int .u8 (o.wh : Nat), .int .i64 o.n, .int .i64 o.k0, .int .i64 o.k1, .int .i64 o.z0, .int .i64 o.z1]] := S
      have hlb := hlb rfl
      have hlb9 := hlb.up (m := 900000) (by omega)
      have hct := hlb.ct
      refine l_pk 3 (fun L => (61, .bool true) :: (68, .bool true) :: (67, .bool true) :: L) F fun a F => ?_
      refine l_then ?_
      refine c_t F rfl ?_
      have S := S.pushEmp
      refine region_gx (fun D => fun ((b16, c17) : Nat × Nat) => [rest w (· < w.heap.size), box b1 48 [pt g0 0, pt g1 0], box b2 54 [pt m0 0, pt m1 0], bif D 6 then sdA g0 (putT xx o.nm o.vl).2.s0 else sdA g0 xx.s0, bif D 6 then sdA g1 (putT xx o.nm o.vl).2.s1 else sdA g1 xx.s1, bif D 12 then rsA m0 (putT xx o.nm o.vl).2.s0 else rsA m0 xx.s0, bif D 12 then rsA m1 (putT xx o.nm o.vl).2.s1 else rsA m1 xx.s1, bif D 6 then lgA bb g0 g1 (putT xx o.nm o.vl).2.lb else lgA bb g0 g1 xx.lb, bif D 12 then rlA bn m0 m1 (putT xx o.nm o.vl).2.lb else rlA bn m0 m1 xx.lb, box b9 33 [.int .i64 o.kind, strV o.nm, strV o.vl, .int .u8 (o.wh : Nat), .int .i64 o.n, .int .i64 o.k0, .int .i64 o.k1, .int .i64 o.z0, .int .i64 o.z1], bif D 5 then sbA b16 5 o.vl c17 else emp]) (fun ((b16, c17) : Nat × Nat) => [pt bb 0, pt b9 1, strV o.nm, pt b9 2, strV o.vl, .slice (some ⟨b16, 0, none⟩) o.vl.length c17, .int .i64 ((putT xx o.nm o.vl).1), pt bn 0, pt b9 1, strV o.nm, pt b9 2, strV o.vl, .int .i64 ((putT xx o.nm o.vl).1), .bool true, .bool true]) [(2, [], [6, 12, 13]), (4, [], [5, 6, 12, 13]), (5, [4], [6, 12, 13]), (6, [2, 4, 5], [12, 13]), (9, [], [12, 13]), (11, [], [12, 13]), (12, [2, 4, 5, 6, 9, 11], [13]), (13, [2, 4, 5, 6, 9, 11, 12], [])] (0, 0) rfl (by kernel_rfl) (by kernel_rfl) F S.drew ?_ ?_ ?_ ?_ ?_
      · rintro ⟨b16, c17⟩; rfl
      ·
       rintro ⟨b16, c17⟩
       refine Eq.trans (b := [some (pt bb 0), some (pt b9 1), none, some (pt b9 2), none, none, none, some (pt bn 0), some (pt b9 1), none, some (pt b9 2), none, none, none, some (.bool true)]) ?_ ?_ <;> kernel_rfl
      ·
       intro D D' x h
       obtain ⟨b16, c17⟩ := x
       simp only [h 5 (by decide), h 6 (by decide), h 12 (by decide)]
      ·
       refine ⟨?_, ?_⟩
       ·
        refine ⟨_, rfl, rfl, by kernel_rfl, ?_⟩
        rintro D ⟨b16, c17⟩ a z S F
        refine ⟨by kernel_rfl, ?_⟩
        exact op_ldk (some ⟨b9, 0, none⟩) 1 (strV o.nm) F rfl (cBox S 9 rfl (j := 1) rfl) (⟨(b16, c17), rfl, (SameB.refl _ _ rfl), S⟩)
       refine ⟨?_, ?_⟩
       ·
        refine ⟨_, rfl, rfl, by kernel_rfl, ?_⟩
        rintro D ⟨b16, c17⟩ a z S F
        refine ⟨by kernel_rfl, ?_⟩
        exact op_ldk (some ⟨b9, 0, none⟩) 2 (strV o.vl) F rfl (cBox S 9 rfl (j := 2) rfl) (⟨(b16, c17), rfl, (SameB.refl _ _ rfl), S⟩)
       refine ⟨?_, ?_⟩
       ·
        refine ⟨_, rfl, rfl, by kernel_rfl, ?_⟩
        rintro D ⟨b16, c17⟩ a z S F
        refine ⟨by kernel_rfl, ?_⟩
        exact op_bytesF S 10 rfl _ _ 5 _ o.vl F rfl (by kernel_rfl) (by kernel_rfl) (by kernel_rfl) (by kernel_rfl) fun y18 y19 z S => ⟨(y18, y19), rfl, ⟨rfl, rfl, rfl, rfl, rfl, trivial, trivial, rfl, rfl, rfl, rfl, rfl, trivial, trivial, trivial, trivial⟩, S⟩
       refine ⟨?_, ?_⟩
       ·
        refine ⟨_, rfl, rfl, by kernel_rfl, ?_⟩
        rintro D ⟨b16, c17⟩ a z S F
        refine ⟨by kernel_rfl, ?_⟩
        have S : Sat w z [rest w (· < w.heap.size), box b1 48 [pt g0 0, pt g1 0], box b2 54 [pt m0 0, pt m1 0], sdA g0 xx.s0, sdA g1 xx.s1, rsA m0 xx.s0, rsA m1 xx.s1, lgA bb g0 g1 xx.lb, rlA bn m0 m1 xx.lb, box b9 33 [.int .i64 o.kind, strV o.nm, strV o.vl, .int .u8 (o.wh : Nat), .int .i64 o.n, .int .i64 o.k0, .int .i64 o.k1, .int .i64 o.z0, .int .i64 o.z1], sbA b16 5 o.vl c17] := S
        obtain ⟨G9, g9, hin9, hlt9, k9⟩ := S.frameB [7, 3, 4] (by decide) rfl
        refine op_fn F (by kernel_rfl) (lput_any (x := xx) (4 * (ii : Int) + 3) hi0 hi1 (by omega) hlb.on (by omega) o.nm _ c17 o.vl (S.sbOf (i := 10) rfl (by omega)) (InG.sb S hin9 10 (by decide) rfl) g9) ?_
        rintro e z9 ⟨rfl, g⟩
        have S : Sat w z9 [rest w (· < w.heap.size), box b1 48 [pt g0 0, pt g1 0], box b2 54 [pt m0 0, pt m1 0], sdA g0 (putT xx o.nm o.vl).2.s0, sdA g1 (putT xx o.nm o.vl).2.s1, rsA m0 xx.s0, rsA m1 xx.s1, lgA bb g0 g1 (putT xx o.nm o.vl).2.lb, rlA bn m0 m1 xx.lb, box b9 33 [.int .i64 o.kind, strV o.nm, strV o.vl, .int .u8 (o.wh : Nat), .int .i64 o.n, .int .i64 o.k0, .int .i64 o.k1, .int .i64 o.z0, .int .i64 o.z1], sbA b16 5 o.vl c17] := k9 z9 [lgA bb g0 g1 (putT xx o.nm o.vl).2.lb, sdA g0 (putT xx o.nm o.vl).2.s0, sdA g1 (putT xx o.nm o.vl).2.s1] rfl g
        clear g g9 k9 hin9 hlt9
        exact ⟨_, rfl, (b16, c17), rfl, (SameB.refl _ _ rfl), S⟩
       refine ⟨?_, ?_⟩
       ·
        refine ⟨_, rfl, rfl, by kernel_rfl, ?_⟩
        rintro D ⟨b16, c17⟩ a z S F
        refine ⟨by kernel_rfl, ?_⟩
        exact op_ldk (some ⟨b9, 0, none⟩) 1 (strV o.nm) F rfl (cBox S 9 rfl (j := 1) rfl) (⟨(b16, c17), rfl, (SameB.refl _ _ rfl), S⟩)
       refine ⟨?_, ?_⟩
       ·
        refine ⟨_, rfl, rfl, by kernel_rfl, ?_⟩
        rintro D ⟨b16, c17⟩ a z S F
        refine ⟨by kernel_rfl, ?_⟩
        exact op_ldk (some ⟨b9, 0, none⟩) 2 (strV o.vl) F rfl (cBox S 9 rfl (j := 2) rfl) (⟨(b16, c17), rfl, (SameB.refl _ _ rfl), S⟩)
       refine ⟨?_, ?_⟩
       ·
        refine ⟨_, rfl, rfl, by kernel_rfl, ?_⟩
        rintro D ⟨b16, c17⟩ a z S F
        refine ⟨by kernel_rfl, ?_⟩
        have S : Sat w z [rest w (· < w.heap.size), box b1 48 [pt g0 0, pt g1 0], box b2 54 [pt m0 0, pt m1 0], sdA g0 (putT xx o.nm o.vl).2.s0, sdA g1 (putT xx o.nm o.vl).2.s1, rsA m0 xx.s0, rsA m1 xx.s1, lgA bb g0 g1 (putT xx o.nm o.vl).2.lb, rlA bn m0 m1 xx.lb, box b9 33 [.int .i64 o.kind, strV o.nm, strV o.vl, .int .u8 (o.wh : Nat), .int .i64 o.n, .int .i64 o.k0, .int .i64 o.k1, .int .i64 o.z0, .int .i64 o.z1], sbA b16 5 o.vl c17] := S
        obtain ⟨G9, g9, hin9, hlt9, k9⟩ := S.frameB [8, 5, 6] (by decide) rfl
        refine op_fn F (by kernel_rfl) (rput_at (x := xx) (4 * (ii : Int) + 3) hi0 hi1 (by omega) hlb9 o.nm o.vl g9) ?_
        rintro e z9 ⟨rfl, g⟩
        have S : Sat w z9 [rest w (· < w.heap.size), box b1 48 [pt g0 0, pt g1 0], box b2 54 [pt m0 0, pt m1 0], sdA g0 (putT xx o.nm o.vl).2.s0, sdA g1 (putT xx o.nm o.vl).2.s1, rsA m0 (putT xx o.nm o.vl).2.s0, rsA m1 (putT xx o.nm o.vl).2.s1, lgA bb g0 g1 (putT xx o.nm o.vl).2.lb, rlA bn m0 m1 (putT xx o.nm o.vl).2.lb, box b9 33 [.int .i64 o.kind, strV o.nm, strV o.vl, .int .u8 (o.wh : Nat), .int .i64 o.n, .int .i64 o.k0, .int .i64 o.k1, .int .i64 o.z0, .int .i64 o.z1], sbA b16 5 o.vl c17] := k9 z9 [rlA bn m0 m1 (putT xx o.nm o.vl).2.lb, rsA m0 (putT xx o.nm o.vl).2.s0, rsA m1 (putT xx o.nm o.vl).2.s1] rfl g
        clear g g9 k9 hin9 hlt9
        exact ⟨_, rfl, (b16, c17), rfl, (SameB.refl _ _ rfl), S⟩
       refine ⟨?_, ?_⟩
       ·
        refine ⟨_, rfl, rfl, by kernel_rfl, ?_⟩
        rintro D ⟨b16, c17⟩ a z S F
        refine ⟨by kernel_rfl, ?_⟩
        exact op_pk F (v0 := .bool (((putT xx o.nm o.vl).1 : Int) == ((putT xx o.nm o.vl).1 : Int))) (v := .bool true) (eqlT rfl) ⟨(b16, c17), rfl, (SameB.refl _ _ rfl), S⟩
       trivial
      rintro ⟨b16, c17⟩ a z F S
      have F := F.subk (l := [(3, pt b1 0), (4, pt b2 0), (5, pt bb 0), (7, pt bn 0), (12, .bool true), (43, .slice Ao O.length co), (44, .int .i64 (O.length : Nat)), (45, .int .i64 (ii : Nat))])
      have S : Sat w z [rest w (· < w.heap.size), box b1 48 [pt g0 0, pt g1 0], box b2 54 [pt m0 0, pt m1 0], sdA g0 (putT xx o.nm o.vl).2.s0, sdA g1 (putT xx o.nm o.vl).2.s1, rsA m0 (putT xx o.nm o.vl).2.s0, rsA m1 (putT xx o.nm o.vl).2.s1, lgA bb g0 g1 (putT xx o.nm o.vl).2.lb, rlA bn m0 m1 (putT xx o.nm o.vl).2.lb, box b9 33 [.int .i64 o.kind, strV o.nm, strV o.vl, .int .u8 (o.wh : Nat), .int .i64 o.n, .int .i64 o.k0, .int .i64 o.k1, .int .i64 o.z0, .int .i64 o.z1], sbA b16 5 o.vl c17] := S
      refine inb_n ?_
      refine then_n ?_
      exact hcut33 _ _ ⟨(putT xx o.nm o.vl).2, true, bb, bn, ((put_in hi0 hi1 o.nm o.vl).1.mono (by omega)), ((put_in hi0 hi1 o.nm o.vl).2.mono (by omega)), (fun _ => ((put_lb hlb o.nm o.vl).up (by omega))), F.subk, (S.pick [0, 1, 2, 3, 4, 5, 6, 7, 8] (by decide))⟩
    refine l_do F rfl rfl (op_pk F (v0 := .bool ((o.kind : Int) == (0 : Int))) (v := .bool false) (eqlF ht15) fun a F => ?_)
    refine l_pk 5 (fun L => (61, .bool false) :: (68, .bool false) :: (67, undef) :: (66, undef) :: (65, .bool false) :: L) F fun a F => ?_
    refine l_then ?_
    refine c_f F rfl ?_
    refine s_reg ?_
    refine l_pk 1 (fun L => (84, pt b9 0) :: L) F fun a F => ?_
    refine l_do F rfl rfl (op_ldk (some ⟨b9, 0, none⟩) 0 (.int .i64 o.kind) F rfl (cBox S 9 rfl (j := 0) rfl) (fun a F => ?_))
    by_cases ht20 : (o.kind : Int) = (1 : Int)
    ·
     refine l_do F rfl rfl (op_pk F (v0 := .bool ((o.kind : Int) == (1 : Int))) (v := .bool true) (eqlT ht20) fun a F => ?_)
     refine l_pk 2 (fun L => (88, bif al then pt bn 0 else .pointer none) :: (87, .bool true) :: L) F fun a F => ?_
     cases al with
     | false =>
      skip
      have S : Sat w z [rest w (· < w.heap.size), box b1 48 [pt g0 0, pt g1 0], box b2 54 [pt m0 0, pt m1 0], sdA g0 xx.s0, sdA g1 xx.s1, rsA m0 xx.s0, rsA m1 xx.s1, emp, emp, box b9 33 [.int .i64 o.kind, strV o.nm, strV o.vl, .int .u8 (o.wh : Nat), .int .i64 o.n, .int .i64 o.k0, .int .i64 o.k1, .int .i64 o.z0, .int .i64 o.z1]] := S
      refine l_pk 3 (fun L => (83, .bool false) :: (90, .bool false) :: (89, .bool false) :: L) F fun a F => ?_
      refine l_then ?_
      refine c_f F rfl ?_
      refine s_reg ?_
      refine l_pk 1 (fun L => (101, pt b9 0) :: L) F fun a F => ?_
      refine l_do F rfl rfl (op_ldk (some ⟨b9, 0, none⟩) 0 (.int .i64 o.kind) F rfl (cBox S 9 rfl (j := 0) rfl) (fun a F => ?_))
      refine l_do F rfl rfl (op_pk F (v0 := .bool ((o.kind : Int) == (2 : Int))) (v := .bool false) (eqlF (by omega)) fun a F => ?_)
      refine l_pk 5 (fun L => (100, .bool false) :: (107, .bool false) :: (106, undef) :: (105, undef) :: (104, .bool false) :: L) F fun a F => ?_
      refine l_then ?_
      refine c_f F rfl ?_
      refine s_reg ?_
      refine l_pk 1 (fun L => (114, pt b9 0) :: L) F fun a F => ?_
      refine l_do F rfl rfl (op_ldk (some ⟨b9, 0, none⟩) 0 (.int .i64 o.kind) F rfl (cBox S 9 rfl (j := 0) rfl) (fun a F => ?_))
      refine l_do F rfl rfl (op_pk F (v0 := .bool ((o.kind : Int) == (3 : Int))) (v := .bool false) (eqlF (by omega)) fun a F => ?_)
      refine l_pk 5 (fun L => (113, .bool false) :: (120, .bool false) :: (119, undef) :: (118, undef) :: (117, .bool false) :: L) F fun a F => ?_
      refine l_then ?_
      refine c_f F rfl ?_
      refine s_reg ?_
      refine l_pk 1 (fun L => (127, pt b9 0) :: L) F fun a F => ?_
      refine l_do F rfl rfl (op_ldk (some ⟨b9, 0, none⟩) 0 (.int .i64 o.kind) F rfl (cBox S 9 rfl (j := 0) rfl) (fun a F => ?_))
      refine l_do F rfl rfl (op_pk F (v0 := .bool ((o.kind : Int) == (4 : Int))) (v := .bool false) (eqlF (by omega)) fun a F => ?_)
      refine l_pk 1 (fun L => (126, .bool false) :: L) F fun a F => ?_
      refine l_then ?_
      refine c_f F rfl ?_
      refine s_reg ?_
      refine l_pk 1 (fun L => (141, pt b9 0) :: L) F fun a F => ?_
      refine l_do F rfl rfl (op_ldk (some ⟨b9, 0, none⟩) 0 (.int .i64 o.kind) F rfl (cBox S 9 rfl (j := 0) rfl) (fun a F => ?_))
      refine l_do F rfl rfl (op_pk F (v0 := .bool ((o.kind : Int) == (5 : Int))) (v := .bool false) (eqlF (by omega)) fun a F => ?_)
      refine l_pk 1 (fun L => (140, .bool false) :: L) F fun a F => ?_
      refine l_then ?_
      refine c_f F rfl ?_
      refine s_reg ?_
      refine l_pk 1 (fun L => (191, pt b9 0) :: L) F fun a F => ?_
      refine l_do F rfl rfl (op_ldk (some ⟨b9, 0, none⟩) 0 (.int .i64 o.kind) F rfl (cBox S 9 rfl (j := 0) rfl) (fun a F => ?_))
      refine l_do F rfl rfl (op_pk F (v0 := .bool ((o.kind : Int) == (6 : Int))) (v := .bool false) (eqlF (by omega)) fun a F => ?_)
      refine l_pk 1 (fun L => (190, .bool false) :: L) F fun a F => ?_
      refine l_then ?_
      refine c_f F rfl ?_
      refine wp_skip ?_
      refine inb_n ?_
      refine then_n ?_
      exact hcut33 _ _ ⟨(⟨xx.lb, xx.s0, xx.s1⟩ : Lg), false, bb, bn, (hi0.mono (by omega)), (hi1.mono (by omega)), nofun, F.subk, (S.pick [0, 1, 2, 3, 4, 5, 6, 7, 8] (by decide))⟩
     | true =>
      skip
      have S : Sat w z [rest w (· < w.heap.size), box b1 48 [pt g0 0, pt g1 0], box b2 54 [pt m0 0, pt m1 0], sdA g0 xx.s0, sdA g1 xx.s1, rsA m0 xx.s0, rsA m1 xx.s1, lgA bb g0 g1 xx.lb, rlA bn m0 m1 xx.lb, box b9 33 [.int .i64 o.kind, strV o.nm, strV o.vl, .int .u8 (o.wh : Nat), .int .i64 o.n, .int .i64 o.k0, .int .i64 o.k1, .int .i64 o.z0, .int .i64 o.z1]] := S
      have hlb := hlb rfl
      have hlb9 := hlb.up (m := 900000) (by omega)
      have hct := hlb.ct
      refine l_pk 3 (fun L => (83, .bool true) :: (90, .bool true) :: (89, .bool true) :: L) F fun a F => ?_
      refine l_then ?_
      refine c_t F rfl ?_
      refine region_gx (fun D => fun (_ : Unit) => [rest w (· < w.heap.size), box b1 48 [pt g0 0, pt g1 0], box b2 54 [pt m0 0, pt m1 0], bif D 3 then sdA g0 (dropT xx o.nm).2.s0 else sdA g0 xx.s0, bif D 3 then sdA g1 (dropT xx o.nm).2.s1 else sdA g1 xx.s1, bif D 7 then rsA m0 (dropT xx o.nm).2.s0 else rsA m0 xx.s0, bif D 7 then rsA m1 (dropT xx o.nm).2.s1 else rsA m1 xx.s1, bif D 3 then lgA bb g0 g1 (dropT xx o.nm).2.lb else lgA bb g0 g1 xx.lb, bif D 7 then rlA bn m0 m1 (dropT xx o.nm).2.lb else rlA bn m0 m1 xx.lb, box b9 33 [.int .i64 o.kind, strV o.nm, strV o.vl, .int .u8 (o.wh : Nat), .int .i64 o.n, .int .i64 o.k0, .int .i64 o.k1, .int .i64 o.z0, .int .i64 o.z1]]) (fun (_ : Unit) => [pt bb 0, pt b9 1, strV o.nm, .int .i64 ((dropT xx o.nm).1), pt bn 0, pt b9 1, strV o.nm, .int .i64 ((dropT xx o.nm).1), .bool true, .bool true]) [(2, [], [3, 7, 8]), (3, [2], [7, 8]), (6, [], [7, 8]), (7, [2, 3, 6], [8]), (8, [2, 3, 6, 7], [])] () rfl (by kernel_rfl) (by kernel_rfl) F S.drew ?_ ?_ ?_ ?_ ?_
      · rintro ⟨⟩; rfl
      · rintro ⟨⟩; kernel_rfl
      ·
       intro D D' x h
       cases x
       simp only [h 3 (by decide), h 7 (by decide)]
      ·
       refine ⟨?_, ?_⟩
       ·
        refine ⟨_, rfl, rfl, by kernel_rfl, ?_⟩
        rintro D ⟨⟩ a z S F
        refine ⟨by kernel_rfl, ?_⟩
        exact op_ldk (some ⟨b9, 0, none⟩) 1 (strV o.nm) F rfl (cBox S 9 rfl (j := 1) rfl) (⟨(), rfl, (SameB.refl _ _ rfl), S⟩)
       refine ⟨?_, ?_⟩
       ·
        refine ⟨_, rfl, rfl, by kernel_rfl, ?_⟩
        rintro D ⟨⟩ a z S F
        refine ⟨by kernel_rfl, ?_⟩
        have S : Sat w z [rest w (· < w.heap.size), box b1 48 [pt g0 0, pt g1 0], box b2 54 [pt m0 0, pt m1 0], sdA g0 xx.s0, sdA g1 xx.s1, rsA m0 xx.s0, rsA m1 xx.s1, lgA bb g0 g1 xx.lb, rlA bn m0 m1 xx.lb, box b9 33 [.int .i64 o.kind, strV o.nm, strV o.vl, .int .u8 (o.wh : Nat), .int .i64 o.n, .int .i64 o.k0, .int .i64 o.k1, .int .i64 o.z0, .int .i64 o.z1]] := S
        obtain ⟨G9, g9, hin9, hlt9, k9⟩ := S.frameB [7, 3, 4] (by decide) rfl
        refine op_fn F (by kernel_rfl) (ldrop_any (x := xx) (4 * (ii : Int) + 3) hi0 hi1 (by omega) hlb.on o.nm (by omega) g9) ?_
        rintro e z9 ⟨rfl, g⟩
        have S : Sat w z9 [rest w (· < w.heap.size), box b1 48 [pt g0 0, pt g1 0], box b2 54 [pt m0 0, pt m1 0], sdA g0 (dropT xx o.nm).2.s0, sdA g1 (dropT xx o.nm).2.s1, rsA m0 xx.s0, rsA m1 xx.s1, lgA bb g0 g1 (dropT xx o.nm).2.lb, rlA bn m0 m1 xx.lb, box b9 33 [.int .i64 o.kind, strV o.nm, strV o.vl, .int .u8 (o.wh : Nat), .int .i64 o.n, .int .i64 o.k0, .int .i64 o.k1, .int .i64 o.z0, .int .i64 o.z1]] := k9 z9 [lgA bb g0 g1 (dropT xx o.nm).2.lb, sdA g0 (dropT xx o.nm).2.s0, sdA g1 (dropT xx o.nm).2.s1] rfl g
        clear g g9 k9 hin9 hlt9
        exact ⟨_, rfl, (), rfl, (SameB.refl _ _ rfl), S⟩
       refine ⟨?_, ?_⟩
       ·
        refine ⟨_, rfl, rfl, by kernel_rfl, ?_⟩
        rintro D ⟨⟩ a z S F
        refine ⟨by kernel_rfl, ?_⟩
        exact op_ldk (some ⟨b9, 0, none⟩) 1 (strV o.nm) F rfl (cBox S 9 rfl (j := 1) rfl) (⟨(), rfl, (SameB.refl _ _ rfl), S⟩)
       refine ⟨?_, ?_⟩
       ·
        refine ⟨_, rfl, rfl, by kernel_rfl, ?_⟩
        rintro D ⟨⟩ a z S F
        refine ⟨by kernel_rfl, ?_⟩
        have S : Sat w z [rest w (· < w.heap.size), box b1 48 [pt g0 0, pt g1 0], box b2 54 [pt m0 0, pt m1 0], sdA g0 (dropT xx o.nm).2.s0, sdA g1 (dropT xx o.nm).2.s1, rsA m0 xx.s0, rsA m1 xx.s1, lgA bb g0 g1 (dropT xx o.nm).2.lb, rlA bn m0 m1 xx.lb, box b9 33 [.int .i64 o.kind, strV o.nm, strV o.vl, .int .u8 (o.wh : Nat), .int .i64 o.n, .int .i64 o.k0, .int .i64 o.k1, .int .i64 o.z0, .int .i64 o.z1]] := S
        obtain ⟨G9, g9, hin9, hlt9, k9⟩ := S.frameB [8, 5, 6] (by decide) rfl
        refine op_fn F (by kernel_rfl) (rdrop_at (x := xx) (4 * (ii : Int) + 3) hi0 hi1 (by omega) hlb9 o.nm (by omega) g9) ?_
        rintro e z9 ⟨rfl, g⟩
        have S : Sat w z9 [rest w (· < w.heap.size), box b1 48 [pt g0 0, pt g1 0], box b2 54 [pt m0 0, pt m1 0], sdA g0 (dropT xx o.nm).2.s0, sdA g1 (dropT xx o.nm).2.s1, rsA m0 (dropT xx o.nm).2.s0, rsA m1 (dropT xx o.nm).2.s1, lgA bb g0 g1 (dropT xx o.nm).2.lb, rlA bn m0 m1 (dropT xx o.nm).2.lb, box b9 33 [.int .i64 o.kind, strV o.nm, strV o.vl, .int .u8 (o.wh : Nat), .int .i64 o.n, .int .i64 o.k0, .int .i64 o.k1, .int .i64 o.z0, .int .i64 o.z1]] := k9 z9 [rlA bn m0 m1 (dropT xx o.nm).2.lb, rsA m0 (dropT xx o.nm).2.s0, rsA m1 (dropT xx o.nm).2.s1] rfl g
        clear g g9 k9 hin9 hlt9
        exact ⟨_, rfl, (), rfl, (SameB.refl _ _ rfl), S⟩
       refine ⟨?_, ?_⟩
       ·
        refine ⟨_, rfl, rfl, by kernel_rfl, ?_⟩
        rintro D ⟨⟩ a z S F
        refine ⟨by kernel_rfl, ?_⟩
        exact op_pk F (v0 := .bool (((dropT xx o.nm).1 : Int) == ((dropT xx o.nm).1 : Int))) (v := .bool true) (eqlT rfl) ⟨(), rfl, (SameB.refl _ _ rfl), S⟩
       trivial
      rintro ⟨⟩ a z F S
      have F := F.subk (l := [(3, pt b1 0), (4, pt b2 0), (5, pt bb 0), (7, pt bn 0), (12, .bool true), (43, .slice Ao O.length co), (44, .int .i64 (O.length : Nat)), (45, .int .i64 (ii : Nat))])
      have S : Sat w z [rest w (· < w.heap.size), box b1 48 [pt g0 0, pt g1 0], box b2 54 [pt m0 0, pt m1 0], sdA g0 (dropT xx o.nm).2.s0, sdA g1 (dropT xx o.nm).2.s1, rsA m0 (dropT xx o.nm).2.s0, rsA m1 (dropT xx o.nm).2.s1, lgA bb g0 g1 (dropT xx o.nm).2.lb, rlA bn m0 m1 (dropT xx o.nm).2.lb, box b9 33 [.int .i64 o.kind, strV o.nm, strV o.vl, .int .u8 (o.wh : Nat), .int .i64 o.n, .int .i64 o.k0, .int .i64 o.k1, .int .i64 o.z0, .int .i64 o.z1]] := S
      refine inb_n ?_
      refine then_n ?_
      exact hcut33 _ _ ⟨(dropT xx o.nm).2, true, bb, bn, ((drop_in hi0 hi1 o.nm).1.mono (by omega)), ((drop_in hi0 hi1 o.nm).2.mono (by omega)), (fun _ => ((drop_lb hlb o.nm).up (by omega))), F.subk, (S.pick [0, 1, 2, 3, 4, 5, 6, 7, 8] (by decide))⟩
    refine l_do F rfl rfl (op_pk F (v0 := .bool ((o.kind : Int) == (1 : Int))) (v := .bool false) (eqlF ht20) fun a F => ?_)
    refine l_pk 5 (fun L => (83, .bool false) :: (90, .bool false) :: (89, undef) :: (88, undef) :: (87, .bool false) :: L) F fun a F => ?_
    refine l_then ?_
    refine c_f F rfl ?_
    refine s_reg ?_
    refine l_pk 1 (fun L => (101, pt b9 0) :: L) F fun a F => ?_
    refine l_do F rfl rfl (op_ldk (some ⟨b9, 0, none⟩) 0 (.int .i64 o.kind) F rfl (cBox S 9 rfl (j := 0) rfl) (fun a F => ?_))
    by_cases ht21 : (o.kind : Int) = (2 : Int)
    ·
     refine l_do F rfl rfl (op_pk F (v0 := .bool ((o.kind : Int) == (2 : Int))) (v := .bool true) (eqlT ht21) fun a F => ?_)
     refine l_pk 2 (fun L => (105, bif al then pt bn 0 else .pointer none) :: (104, .bool true) :: L) F fun a F => ?_
     cases al with
     | false =>
      skip
      have S : Sat w z [rest w (· < w.heap.size), box b1 48 [pt g0 0, pt g1 0], box b2 54 [pt m0 0, pt m1 0], sdA g0 xx.s0, sdA g1 xx.s1, rsA m0 xx.s0, rsA m1 xx.s1, emp, emp, box b9 33 [.int .i64 o.kind, strV o.nm, strV o.vl, .int .u8 (o.wh : Nat), .int .i64 o.n, .int .i64 o.k0, .int .i64 o.k1, .int .i64 o.z0, .int .i64 o.z1]] := S
      refine l_pk 3 (fun L => (100, .bool false) :: (107, .bool false) :: (106, .bool false) :: L) F fun a F => ?_
      refine l_then ?_
      refine c_f F rfl ?_
      refine s_reg ?_
      refine l_pk 1 (fun L => (114, pt b9 0) :: L) F fun a F => ?_
      refine l_do F rfl rfl (op_ldk (some ⟨b9, 0, none⟩) 0 (.int .i64 o.kind) F rfl (cBox S 9 rfl (j := 0) rfl) (fun a F => ?_))
      refine l_do F rfl rfl (op_pk F (v0 := .bool ((o.kind : Int) == (3 : Int))) (v := .bool false) (eqlF (by omega)) fun a F => ?_)
      refine l_pk 5 (fun L => (113, .bool false) :: (120, .bool false) :: (119, undef) :: (118, undef) :: (117, .bool false) :: L) F fun a F => ?_
      refine l_then ?_
      refine c_f F rfl ?_
      refine s_reg ?_
      refine l_pk 1 (fun L => (127, pt b9 0) :: L) F fun a F => ?_
      refine l_do F rfl rfl (op_ldk (some ⟨b9, 0, none⟩) 0 (.int .i64 o.kind) F rfl (cBox S 9 rfl (j := 0) rfl) (fun a F => ?_))
      refine l_do F rfl rfl (op_pk F (v0 := .bool ((o.kind : Int) == (4 : Int))) (v := .bool false) (eqlF (by omega)) fun a F => ?_)
      refine l_pk 1 (fun L => (126, .bool false) :: L) F fun a F => ?_
      refine l_then ?_
      refine c_f F rfl ?_
      refine s_reg ?_
      refine l_pk 1 (fun L => (141, pt b9 0) :: L) F fun a F => ?_
      refine l_do F rfl rfl (op_ldk (some ⟨b9, 0, none⟩) 0 (.int .i64 o.kind) F rfl (cBox S 9 rfl (j := 0) rfl) (fun a F => ?_))
      refine l_do F rfl rfl (op_pk F (v0 := .bool ((o.kind : Int) == (5 : Int))) (v := .bool false) (eqlF (by omega)) fun a F => ?_)
      refine l_pk 1 (fun L => (140, .bool false) :: L) F fun a F => ?_
      refine l_then ?_
      refine c_f F rfl ?_
      refine s_reg ?_
      refine l_pk 1 (fun L => (191, pt b9 0) :: L) F fun a F => ?_
      refine l_do F rfl rfl (op_ldk (some ⟨b9, 0, none⟩) 0 (.int .i64 o.kind) F rfl (cBox S 9 rfl (j := 0) rfl) (fun a F => ?_))
      refine l_do F rfl rfl (op_pk F (v0 := .bool ((o.kind : Int) == (6 : Int))) (v := .bool false) (eqlF (by omega)) fun a F => ?_)
      refine l_pk 1 (fun L => (190, .bool false) :: L) F fun a F => ?_
      refine l_then ?_
      refine c_f F rfl ?_
      refine wp_skip ?_
      refine inb_n ?_
      refine then_n ?_
      exact hcut33 _ _ ⟨(⟨xx.lb, xx.s0, xx.s1⟩ : Lg), false, bb, bn, (hi0.mono (by omega)), (hi1.mono (by omega)), nofun, F.subk, (S.pick [0, 1, 2, 3, 4, 5, 6, 7, 8] (by decide))⟩
     | true =>
      skip
      have S : Sat w z [rest w (· < w.heap.size), box b1 48 [pt g0 0, pt g1 0], box b2 54 [pt m0 0, pt m1 0], sdA g0 xx.s0, sdA g1 xx.s1, rsA m0 xx.s0, rsA m1 xx.s1, lgA bb g0 g1 xx.lb, rlA bn m0 m1 xx.lb, box b9 33 [.int .i64 o.kind, strV o.nm, strV o.vl, .int .u8 (o.wh : Nat), .int .i64 o.n, .int .i64 o.k0, .int .i64 o.k1, .int .i64 o.z0, .int .i64 o.z1]] := S
      have hlb := hlb rfl
      have hlb9 := hlb.up (m := 900000) (by omega)
      have hct := hlb.ct
      refine l_pk 3 (fun L => (100, .bool true) :: (107, .bool true) :: (106, .bool true) :: L) F fun a F => ?_
      refine l_then ?_
      refine c_t F rfl ?_
      refine wp_region_list ?_
      refine l_pk 1 (fun L => (108, pt bb 0) :: L) F fun a F => ?_
      obtain ⟨G9, g9, hin9, hlt9, k9⟩ := S.frameB [7, 3, 4] (by decide) rfl
      refine l_do F rfl rfl (op_fn F (by kernel_rfl) (lsync_any (x := xx) (4 * (ii : Int) + 3) hi0 hi1 (by omega) hlb.on g9) ?_)
      rintro e z9 ⟨rfl, g⟩
      have S : Sat w z9 [rest w (· < w.heap.size), box b1 48 [pt g0 0, pt g1 0], box b2 54 [pt m0 0, pt m1 0], sdA g0 (syncT xx).2.s0, sdA g1 (syncT xx).2.s1, rsA m0 xx.s0, rsA m1 xx.s1, lgA bb g0 g1 (syncT xx).2.lb, rlA bn m0 m1 xx.lb, box b9 33 [.int .i64 o.kind, strV o.nm, strV o.vl, .int .u8 (o.wh : Nat), .int .i64 o.n, .int .i64 o.k0, .int .i64 o.k1, .int .i64 o.z0, .int .i64 o.z1]] := k9 z9 [lgA bb g0 g1 (syncT xx).2.lb, sdA g0 (syncT xx).2.s0, sdA g1 (syncT xx).2.s1] rfl g
      clear g g9 k9 hin9 hlt9
      refine ⟨_, rfl, ?_⟩
      intro a F
      refine l_pk 1 (fun L => (110, pt bn 0) :: L) F fun a F => ?_
      obtain ⟨G9, g9, hin9, hlt9, k9⟩ := S.frameB [8, 5, 6] (by decide) rfl
      refine l_do F rfl rfl (op_fn F (by kernel_rfl) (rsync_lg (x := xx) (4 * (ii : Int) + 3) hi0 hi1 (by omega) hlb9 g9) ?_)
      rintro e z9 ⟨rfl, g⟩
      have S : Sat w z9 [rest w (· < w.heap.size), box b1 48 [pt g0 0, pt g1 0], box b2 54 [pt m0 0, pt m1 0], sdA g0 (syncT xx).2.s0, sdA g1 (syncT xx).2.s1, rsA m0 (syncT xx).2.s0, rsA m1 (syncT xx).2.s1, lgA bb g0 g1 (syncT xx).2.lb, rlA bn m0 m1 (syncT xx).2.lb, box b9 33 [.int .i64 o.kind, strV o.nm, strV o.vl, .int .u8 (o.wh : Nat), .int .i64 o.n, .int .i64 o.k0, .int .i64 o.k1, .int .i64 o.z0, .int .i64 o.z1]] := k9 z9 [rlA bn m0 m1 (syncT xx).2.lb, rsA m0 (syncT xx).2.s0, rsA m1 (syncT xx).2.s1] rfl g
      clear g g9 k9 hin9 hlt9
      refine ⟨_, rfl, ?_⟩
      intro a F
      refine l_do F rfl rfl (op_pk F (v0 := .bool (((syncT xx).1 : Int) == ((syncT xx).1 : Int))) (v := .bool true) (eqlT rfl) fun a F => ?_)
      refine l_pk 1 (fun L => (12, .bool true) :: L) F fun a F => ?_
      refine l_nil (inb_n ?_)
      refine then_n ?_
      exact hcut33 _ _ ⟨(syncT xx).2, true, bb, bn, ((sync_in hi0 hi1).1.mono (by omega)), ((sync_in hi0 hi1).2.mono (by omega)), (fun _ => ((sync_lb hlb).up (by omega))), F.subk, (S.pick [0, 1, 2, 3, 4, 5, 6, 7, 8] (by decide))⟩
    refine l_do F rfl rfl (op_pk F (v0 := .bool ((o.kind : Int) == (2 : Int))) (v := .bool false) (eqlF ht21) fun a F => ?_)
    refine l_pk 5 (fun L => (100, .bool false) :: (107, .bool false) :: (106, undef) :: (105, undef) :: (104, .bool false) :: L) F fun a F => ?_
    refine l_then ?_
    refine c_f F rfl ?_
    refine s_reg ?_
    refine l_pk 1 (fun L => (114, pt b9 0) :: L) F fun a F => ?_
    refine l_do F rfl rfl (op_ldk (some ⟨b9, 0, none⟩) 0 (.int .i64 o.kind) F rfl (cBox S 9 rfl (j := 0) rfl) (fun a F => ?_))
    by_cases ht22 : (o.kind : Int) = (3 : Int)
    ·
     refine l_do F rfl rfl (op_pk F (v0 := .bool ((o.kind : Int) == (3 : Int))) (v := .bool true) (eqlT ht22) fun a F => ?_)
     refine l_pk 2 (fun L => (118, bif al then pt bn 0 else .pointer none) :: (117, .bool true) :: L) F fun a F => ?_
     cases al with
     | false =>
      skip
      have S : Sat w z [rest w (· < w.heap.size), box b1 48 [pt g0 0, pt g1 0], box b2 54 [pt m0 0, pt m1 0], sdA g0 xx.s0, sdA g1 xx.s1, rsA m0 xx.s0, rsA m1 xx.s1, emp, emp, box b9 33 [.int .i64 o.kind, strV o.nm, strV o.vl, .int .u8 (o.wh : Nat), .int .i64 o.n, .int .i64 o.k0, .int .i64 o.k1, .int .i64 o.z0, .int .i64 o.z1]] := S
      refine l_pk 3 (fun L => (113, .bool false) :: (120, .bool false) :: (119, .bool false) :: L) F fun a F => ?_
      refine l_then ?_
      refine c_f F rfl ?_
      refine s_reg ?_
      refine l_pk 1 (fun L => (127, pt b9 0) :: L) F fun a F => ?_
      refine l_do F rfl rfl (op_ldk (some ⟨b9, 0, none⟩) 0 (.int .i64 o.kind) F rfl (cBox S 9 rfl (j := 0) rfl) (fun a F => ?_))
      refine l_do F rfl rfl (op_pk F (v0 := .bool ((o.kind : Int) == (4 : Int))) (v := .bool false) (eqlF (by omega)) fun a F => ?_)
      refine l_pk 1 (fun L => (126, .bool false) :: L) F fun a F => ?_
      refine l_then ?_
      refine c_f F rfl ?_
      refine s_reg ?_
      refine l_pk 1 (fun L => (141, pt b9 0) :: L) F fun a F => ?_
      refine l_do F rfl rfl (op_ldk (some ⟨b9, 0, none⟩) 0 (.int .i64 o.kind) F rfl (cBox S 9 rfl (j := 0) rfl) (fun a F => ?_))
      refine l_do F rfl rfl (op_pk F (v0 := .bool ((o.kind : Int) == (5 : Int))) (v := .bool false) (eqlF (by omega)) fun a F => ?_)
      refine l_pk 1 (fun L => (140, .bool false) :: L) F fun a F => ?_
      refine l_then ?_
      refine c_f F rfl ?_
      refine s_reg ?_
      refine l_pk 1 (fun L => (191, pt b9 0) :: L) F fun a F => ?_
      refine l_do F rfl rfl (op_ldk (some ⟨b9, 0, none⟩) 0 (.int .i64 o.kind) F rfl (cBox S 9 rfl (j := 0) rfl) (fun a F => ?_))
      refine l_do F rfl rfl (op_pk F (v0 := .bool ((o.kind : Int) == (6 : Int))) (v := .bool false) (eqlF (by omega)) fun a F => ?_)
      refine l_pk 1 (fun L => (190, .bool false) :: L) F fun a F => ?_
      refine l_then ?_
      refine c_f F rfl ?_
      refine wp_skip ?_
      refine inb_n ?_
      refine then_n ?_
      exact hcut33 _ _ ⟨(⟨xx.lb, xx.s0, xx.s1⟩ : Lg), false, bb, bn, (hi0.mono (by omega)), (hi1.mono (by omega)), nofun, F.subk, (S.pick [0, 1, 2, 3, 4, 5, 6, 7, 8] (by decide))⟩
     | true =>
      skip
      have S : Sat w z [rest w (· < w.heap.size), box b1 48 [pt g0 0, pt g1 0], box b2 54 [pt m0 0, pt m1 0], sdA g0 xx.s0, sdA g1 xx.s1, rsA m0 xx.s0, rsA m1 xx.s1, lgA bb g0 g1 xx.lb, rlA bn m0 m1 xx.lb, box b9 33 [.int .i64 o.kind, strV o.nm, strV o.vl, .int .u8 (o.wh : Nat), .int .i64 o.n, .int .i64 o.k0, .int .i64 o.k1, .int .i64 o.z0, .int .i64 o.z1]] := S
      have hlb := hlb rfl
      have hlb9 := hlb.up (m := 900000) (by omega)
      have hct := hlb.ct
      refine l_pk 3 (fun L => (113, .bool true) :: (120, .bool true) :: (119, .bool true) :: L) F fun a F => ?_
      refine l_then ?_
      refine c_t F rfl ?_
      refine wp_region_list ?_
      refine l_pk 1 (fun L => (121, pt bb 0) :: L) F fun a F => ?_
      obtain ⟨G9, g9, hin9, hlt9, k9⟩ := S.frameB [7, 3, 4] (by decide) rfl
      refine l_do F rfl rfl (op_fn F (by kernel_rfl) (lcomp_any (x := xx) (4 * (ii : Int) + 3) hi0 hi1 (by omega) hlb9 g9) ?_)
      rintro e z9 ⟨rfl, g⟩
      have S : Sat w z9 [rest w (· < w.heap.size), box b1 48 [pt g0 0, pt g1 0], box b2 54 [pt m0 0, pt m1 0], sdA g0 (compT xx).2.s0, sdA g1 (compT xx).2.s1, rsA m0 xx.s0, rsA m1 xx.s1, lgA bb g0 g1 (compT xx).2.lb, rlA bn m0 m1 xx.lb, box b9 33 [.int .i64 o.kind, strV o.nm, strV o.vl, .int .u8 (o.wh : Nat), .int .i64 o.n, .int .i64 o.k0, .int .i64 o.k1, .int .i64 o.z0, .int .i64 o.z1]] := k9 z9 [lgA bb g0 g1 (compT xx).2.lb, sdA g0 (compT xx).2.s0, sdA g1 (compT xx).2.s1] rfl g
      clear g g9 k9 hin9 hlt9
      refine ⟨_, rfl, ?_⟩
      intro a F
      refine l_pk 1 (fun L => (123, pt bn 0) :: L) F fun a F => ?_
      obtain ⟨G9, g9, hin9, hlt9, k9⟩ := S.frameB [8, 5, 6] (by decide) rfl
      refine l_do F rfl rfl (op_fn F (by kernel_rfl) (rcomp_any (x := xx) (4 * (ii : Int) + 3) hi0 hi1 (by omega) hlb9 g9) ?_)
      rintro e z9 ⟨rfl, g⟩
      have S : Sat w z9 [rest w (· < w.heap.size), box b1 48 [pt g0 0, pt g1 0], box b2 54 [pt m0 0, pt m1 0], sdA g0 (compT xx).2.s0, sdA g1 (compT xx).2.s1, rsA m0 (compT xx).2.s0, rsA m1 (compT xx).2.s1, lgA bb g0 g1 (compT xx).2.lb, rlA bn m0 m1 (compT xx).2.lb, box b9 33 [.int .i64 o.kind, strV o.nm, strV o.vl, .int .u8 (o.wh : Nat), .int .i64 o.n, .int .i64 o.k0, .int .i64 o.k1, .int .i64 o.z0, .int .i64 o.z1]] := k9 z9 [rlA bn m0 m1 (compT xx).2.lb, rsA m0 (compT xx).2.s0, rsA m1 (compT xx).2.s1] rfl g
      clear g g9 k9 hin9 hlt9
      refine ⟨_, rfl, ?_⟩
      intro a F
      refine l_do F rfl rfl (op_pk F (v0 := .bool (((compT xx).1 : Int) == ((compT xx).1 : Int))) (v := .bool true) (eqlT rfl) fun a F => ?_)
      refine l_pk 1 (fun L => (12, .bool true) :: L) F fun a F => ?_
      refine l_nil (inb_n ?_)
      refine then_n ?_
      exact hcut33 _ _ ⟨(compT xx).2, true, bb, bn, ((comp_in hi0 hi1).1.mono (by omega)), ((comp_in hi0 hi1).2.mono (by omega)), (fun _ => ((comp_lb hlb).up (by omega))), F.subk, (S.pick [0, 1, 2, 3, 4, 5, 6, 7, 8] (by decide))⟩
    refine l_do F rfl rfl (op_pk F (v0 := .bool ((o.kind : Int) == (3 : Int))) (v := .bool false) (eqlF ht22) fun a F => ?_)
    refine l_pk 5 (fun L => (113, .bool false) :: (120, .bool false) :: (119, undef) :: (118, undef) :: (117, .bool false) :: L) F fun a F => ?_
    refine l_then ?_
    refine c_f F rfl ?_
    refine s_reg ?_
    refine l_pk 1 (fun L => (127, pt b9 0) :: L) F fun a F => ?_
    refine l_do F rfl rfl (op_ldk (some ⟨b9, 0, none⟩) 0 (.int .i64 o.kind) F rfl (cBox S 9 rfl (j := 0) rfl) (fun a F => ?_))
    by_cases ht23 : (o.kind : Int) = (4 : Int)
    ·
     refine l_do F rfl rfl (op_pk F (v0 := .bool ((o.kind : Int) == (4 : Int))) (v := .bool true) (eqlT ht23) fun a F => ?_)
     refine l_pk 1 (fun L => (126, .bool true) :: L) F fun a F => ?_
     refine l_then ?_
     refine c_t F rfl ?_
     refine region_gx (fun D => fun (_ : Unit) => [rest w (· < w.heap.size), box b1 48 [pt g0 0, pt g1 0], box b2 54 [pt m0 0, pt m1 0], bif D 9 then sdA g0 (xx.s0.fus o.n) else sdA g0 xx.s0, sdA g1 xx.s1, bif D 9 then rsA m0 (xx.s0.fus o.n) else rsA m0 xx.s0, rsA m1 xx.s1, bif al then lgA bb g0 g1 xx.lb else emp, bif al then rlA bn m0 m1 xx.lb else emp, box b9 33 [.int .i64 o.kind, strV o.nm, strV o.vl, .int .u8 (o.wh : Nat), .int .i64 o.n, .int .i64 o.k0, .int .i64 o.k1, .int .i64 o.z0, .int .i64 o.z1]]) (fun (_ : Unit) => [.int .i64 0, pt b1 0, pt g0 0, .int .i64 0, pt b2 0, pt m0 0, pt b9 4, .int .i64 o.n, .agg #[.int .i64 3, .int .i64 o.n, .int .i64 0, .slice none 0 0], .bool true]) [(2, [], [9]), (5, [], [9]), (7, [], [9]), (9, [2, 5, 7], [])] () rfl (by kernel_rfl) (by kernel_rfl) F S.drew ?_ ?_ ?_ ?_ ?_
     · rintro ⟨⟩; rfl
     · rintro ⟨⟩; kernel_rfl
     ·
      intro D D' x h
      cases x
      simp only [h 9 (by decide)]
     ·
      refine ⟨?_, ?_⟩
      ·
       refine ⟨_, rfl, rfl, by kernel_rfl, ?_⟩
       rintro D ⟨⟩ a z S F
       refine ⟨by kernel_rfl, ?_⟩
       exact op_ldk (some ⟨b1, 0, none⟩) 0 (pt g0 0) F rfl (cBox S 1 rfl (j := 0) rfl) (⟨(), rfl, (SameB.refl _ _ rfl), S⟩)
      refine ⟨?_, ?_⟩
      ·
       refine ⟨_, rfl, rfl, by kernel_rfl, ?_⟩
       rintro D ⟨⟩ a z S F
       refine ⟨by kernel_rfl, ?_⟩
       exact op_ldk (some ⟨b2, 0, none⟩) 0 (pt m0 0) F rfl (cBox S 2 rfl (j := 0) rfl) (⟨(), rfl, (SameB.refl _ _ rfl), S⟩)
      refine ⟨?_, ?_⟩
      ·
       refine ⟨_, rfl, rfl, by kernel_rfl, ?_⟩
       rintro D ⟨⟩ a z S F
       refine ⟨by kernel_rfl, ?_⟩
       exact op_ldk (some ⟨b9, 0, none⟩) 4 (.int .i64 o.n) F rfl (cBox S 9 rfl (j := 4) rfl) (⟨(), rfl, (SameB.refl _ _ rfl), S⟩)
      refine ⟨?_, ?_⟩
      ·
       refine ⟨_, rfl, rfl, by kernel_rfl, ?_⟩
       rintro D ⟨⟩ a z S F
       refine ⟨by kernel_rfl, ?_⟩
       have S : Sat w z [rest w (· < w.heap.size), box b1 48 [pt g0 0, pt g1 0], box b2 54 [pt m0 0, pt m1 0], sdA g0 xx.s0, sdA g1 xx.s1, rsA m0 xx.s0, rsA m1 xx.s1, bif al then lgA bb g0 g1 xx.lb else emp, bif al then rlA bn m0 m1 xx.lb else emp, box b9 33 [.int .i64 o.kind, strV o.nm, strV o.vl, .int .u8 (o.wh : Nat), .int .i64 o.n, .int .i64 o.k0, .int .i64 o.k1, .int .i64 o.z0, .int .i64 o.z1]] := S
       obtain ⟨G9, g9, hin9, hlt9, k9⟩ := S.frameB [3, 5] (by decide) rfl
       refine op_fn F (by kernel_rfl) (does_fus hi0 (by omega) o.n hok.n.1 hok.n.2 g9) ?_
       rintro e z9 ⟨rfl, g⟩
       have S : Sat w z9 [rest w (· < w.heap.size), box b1 48 [pt g0 0, pt g1 0], box b2 54 [pt m0 0, pt m1 0], sdA g0 (xx.s0.fus o.n), sdA g1 xx.s1, rsA m0 (xx.s0.fus o.n), rsA m1 xx.s1, bif al then lgA bb g0 g1 xx.lb else emp, bif al then rlA bn m0 m1 xx.lb else emp, box b9 33 [.int .i64 o.kind, strV o.nm, strV o.vl, .int .u8 (o.wh : Nat), .int .i64 o.n, .int .i64 o.k0, .int .i64 o.k1, .int .i64 o.z0, .int .i64 o.z1]] := k9 z9 [sdA g0 (xx.s0.fus o.n), rsA m0 (xx.s0.fus o.n)] rfl g
       clear g g9 k9 hin9 hlt9
       exact ⟨_, rfl, (), rfl, (SameB.refl _ _ rfl), S⟩
      trivial
     rintro ⟨⟩ a z F S
     have F := F.subk (l := [(3, pt b1 0), (4, pt b2 0), (5, bif al then pt bb 0 else .pointer none), (7, bif al then pt bn 0 else .pointer none), (12, .bool true), (43, .slice Ao O.length co), (44, .int .i64 (O.length : Nat)), (45, .int .i64 (ii : Nat))])
     have S : Sat w z [rest w (· < w.heap.size), box b1 48 [pt g0 0, pt g1 0], box b2 54 [pt m0 0, pt m1 0], sdA g0 (xx.s0.fus o.n), sdA g1 xx.s1, rsA m0 (xx.s0.fus o.n), rsA m1 xx.s1, bif al then lgA bb g0 g1 xx.lb else emp, bif al then rlA bn m0 m1 xx.lb else emp, box b9 33 [.int .i64 o.kind, strV o.nm, strV o.vl, .int .u8 (o.wh : Nat), .int .i64 o.n, .int .i64 o.k0, .int .i64 o.k1, .int .i64 o.z0, .int .i64 o.z1]] := S
     refine inb_n ?_
     refine then_n ?_
     exact hcut33 _ _ ⟨(⟨xx.lb, (xx.s0.fus o.n), xx.s1⟩ : Lg), al, bb, bn, ((hi0.fus hok.n.2).mono (by omega)), (hi1.mono (by omega)), (fun h9 => (hlb h9).up (by omega)), F.subk, (S.pick [0, 1, 2, 3, 4, 5, 6, 7, 8] (by decide))⟩
    refine l_do F rfl rfl (op_pk F (v0 := .bool ((o.kind : Int) == (4 : Int))) (v := .bool false) (eqlF ht23) fun a F => ?_)
    refine l_pk 1 (fun L => (126, .bool false) :: L) F fun a F => ?_
    refine l_then ?_
    refine c_f F rfl ?_
    refine s_reg ?_
    refine l_pk 1 (fun L => (141, pt b9 0) :: L) F fun a F => ?_
    refine l_do F rfl rfl (op_ldk (some ⟨b9, 0, none⟩) 0 (.int .i64 o.kind) F rfl (cBox S 9 rfl (j := 0) rfl) (fun a F => ?_))
    by_cases ht24 : (o.kind : Int) = (5 : Int)
    ·
     refine l_do F rfl rfl (op_pk F (v0 := .bool ((o.kind : Int) == (5 : Int))) (v := .bool true) (eqlT ht24) fun a F => ?_)
     refine l_pk 1 (fun L => (140, .bool true) :: L) F fun a F => ?_
     refine l_then ?_
     refine c_t F rfl ?_
     refine wp_seq ?_
     refine s_reg ?_
     refine l_pk 1 (fun L => (144, .int .i64 0) :: L) F fun a F => ?_
     refine l_then ?_
     refine wp_block ?_
     refine wp_loop_rounds 3 (rnd ?_)
     refine s_reg ?_
     refine l_pk 1 (fun L => (145, .bool true) :: L) F fun a F => ?_
     refine l_then ?_
     refine wp_seq ?_
     refine c_t F rfl ?_
     refine wp_skip ?_
     refine then_n ?_
     refine wp_seq ?_
     refine wp_block ?_
     refine s_reg ?_
     refine l_pk 2 (fun L => (13, .int .i64 0) :: (146, .int .i64 0) :: L) F fun a F => ?_
     refine l_then ?_
     refine region_gx (fun D => fun (_ : Unit) => [rest w (· < w.heap.size), box b1 48 [pt g0 0, pt g1 0], box b2 54 [pt m0 0, pt m1 0], bif D 15 then sdA g0 (xx.s0.crs o.k0 o.z0) else sdA g0 xx.s0, sdA g1 xx.s1, bif D 15 then rsA m0 (xx.s0.crs o.k0 o.z0) else rsA m0 xx.s0, rsA m1 xx.s1, bif al then lgA bb g0 g1 xx.lb else emp, bif al then rlA bn m0 m1 xx.lb else emp, box b9 33 [.int .i64 o.kind, strV o.nm, strV o.vl, .int .u8 (o.wh : Nat), .int .i64 o.n, .int .i64 o.k0, .int .i64 o.k1, .int .i64 o.z0, .int .i64 o.z1]]) (fun (_ : Unit) => [.int .i64 0, pt b1 0, pt g0 0, .int .i64 0, pt b2 0, pt m0 0, .int .i64 0, pt b9 5, pt b9 5, .int .i64 o.k0, .int .i64 0, pt b9 7, pt b9 7, .int .i64 o.z0, .agg #[.int .i64 4, .int .i64 o.k0, .int .i64 o.z0, .slice none 0 0], .bool true]) [(2, [], [15]), (5, [], [15]), (9, [], [15]), (13, [], [15]), (15, [2, 5, 9, 13], [])] () rfl (by kernel_rfl) (by kernel_rfl) F S.drew ?_ ?_ ?_ ?_ ?_
     · rintro ⟨⟩; rfl
     ·
      rintro ⟨⟩
      refine Eq.trans (b := [some (.int .i64 0), some (pt b1 0), none, some (.int .i64 0), some (pt b2 0), none, some (.int .i64 0), some (pt b9 5), some (pt b9 5), none, some (.int .i64 0), some (pt b9 7), some (pt b9 7), none, some (.agg #[.int .i64 4, .int .i64 o.k0, .int .i64 o.z0, .slice none 0 0]), none]) ?_ ?_ <;> kernel_rfl
     ·
      intro D D' x h
      cases x
      simp only [h 15 (by decide)]
     ·
      refine ⟨?_, ?_⟩
      ·
       refine ⟨_, rfl, rfl, by kernel_rfl, ?_⟩
       rintro D ⟨⟩ a z S F
       refine ⟨by kernel_rfl, ?_⟩
       exact op_ldk (some ⟨b1, 0, none⟩) 0 (pt g0 0) F rfl (cBox S 1 rfl (j := 0) rfl) (⟨(), rfl, (SameB.refl _ _ rfl), S⟩)
      refine ⟨?_, ?_⟩
      ·
       refine ⟨_, rfl, rfl, by kernel_rfl, ?_⟩
       rintro D ⟨⟩ a z S F
       refine ⟨by kernel_rfl, ?_⟩
       exact op_ldk (some ⟨b2, 0, none⟩) 0 (pt m0 0) F rfl (cBox S 2 rfl (j := 0) rfl) (⟨(), rfl, (SameB.refl _ _ rfl), S⟩)
      refine ⟨?_, ?_⟩
      ·
       refine ⟨_, rfl, rfl, by kernel_rfl, ?_⟩
       rintro D ⟨⟩ a z S F
       refine ⟨by kernel_rfl, ?_⟩
       exact op_ldk (some ⟨b9, 0, none⟩) 5 (.int .i64 o.k0) F rfl (cBox S 9 rfl (j := 5) rfl) (⟨(), rfl, (SameB.refl _ _ rfl), S⟩)
      refine ⟨?_, ?_⟩
      ·
       refine ⟨_, rfl, rfl, by kernel_rfl, ?_⟩
       rintro D ⟨⟩ a z S F
       refine ⟨by kernel_rfl, ?_⟩
       exact op_ldk (some ⟨b9, 0, none⟩) 7 (.int .i64 o.z0) F rfl (cBox S 9 rfl (j := 7) rfl) (⟨(), rfl, (SameB.refl _ _ rfl), S⟩)
      refine ⟨?_, ?_⟩
      ·
       refine ⟨_, rfl, rfl, by kernel_rfl, ?_⟩
       rintro D ⟨⟩ a z S F
       refine ⟨by kernel_rfl, ?_⟩
       have S : Sat w z [rest w (· < w.heap.size), box b1 48 [pt g0 0, pt g1 0], box b2 54 [pt m0 0, pt m1 0], sdA g0 xx.s0, sdA g1 xx.s1, rsA m0 xx.s0, rsA m1 xx.s1, bif al then lgA bb g0 g1 xx.lb else emp, bif al then rlA bn m0 m1 xx.lb else emp, box b9 33 [.int .i64 o.kind, strV o.nm, strV o.vl, .int .u8 (o.wh : Nat), .int .i64 o.n, .int .i64 o.k0, .int .i64 o.k1, .int .i64 o.z0, .int .i64 o.z1]] := S
       obtain ⟨G9, g9, hin9, hlt9, k9⟩ := S.frameB [3, 5] (by decide) rfl
       refine op_fn F (by kernel_rfl) (does_crs hi0 (by omega) o.k0 o.z0 hok.k0.1 hok.k0.2 g9) ?_
       rintro e z9 ⟨rfl, g⟩
       have S : Sat w z9 [rest w (· < w.heap.size), box b1 48 [pt g0 0, pt g1 0], box b2 54 [pt m0 0, pt m1 0], sdA g0 (xx.s0.crs o.k0 o.z0), sdA g1 xx.s1, rsA m0 (xx.s0.crs o.k0 o.z0), rsA m1 xx.s1, bif al then lgA bb g0 g1 xx.lb else emp, bif al then rlA bn m0 m1 xx.lb else emp, box b9 33 [.int .i64 o.kind, strV o.nm, strV o.vl, .int .u8 (o.wh : Nat), .int .i64 o.n, .int .i64 o.k0, .int .i64 o.k1, .int .i64 o.z0, .int .i64 o.z1]] := k9 z9 [sdA g0 (xx.s0.crs o.k0 o.z0), rsA m0 (xx.s0.crs o.k0 o.z0)] rfl g
       clear g g9 k9 hin9 hlt9
       exact ⟨_, rfl, (), rfl, (SameB.refl _ _ rfl), S⟩
      trivial
     rintro ⟨⟩ a z F S
     have F := F.subk (l := [(3, pt b1 0), (4, pt b2 0), (5, bif al then pt bb 0 else .pointer none), (7, bif al then pt bn 0 else .pointer none), (10, pt b9 0), (43, .slice Ao O.length co), (44, .int .i64 (O.length : Nat)), (45, .int .i64 (ii : Nat)), (144, .int .i64 0)])
     have S : Sat w z [rest w (· < w.heap.size), box b1 48 [pt g0 0, pt g1 0], box b2 54 [pt m0 0, pt m1 0], sdA g0 (xx.s0.crs o.k0 o.z0), sdA g1 xx.s1, rsA m0 (xx.s0.crs o.k0 o.z0), rsA m1 xx.s1, bif al then lgA bb g0 g1 xx.lb else emp, bif al then rlA bn m0 m1 xx.lb else emp, box b9 33 [.int .i64 o.kind, strV o.nm, strV o.vl, .int .u8 (o.wh : Nat), .int .i64 o.n, .int .i64 o.k0, .int .i64 o.k1, .int .i64 o.z0, .int .i64 o.z1]] := S
     refine inb_n ?_
     refine then_n ?_
     refine wp_region_list ?_
     refine l_pk 2 (fun L => (144, .int .i64 1) :: (163, .int .i64 1) :: L) F fun a F => ?_
     refine l_then ?_
     refine rnd ?_
     refine s_reg ?_
     refine l_pk 1 (fun L => (145, .bool true) :: L) F fun a F => ?_
     refine l_then ?_
     refine wp_seq ?_
     refine c_t F rfl ?_
     refine wp_skip ?_
     refine then_n ?_
     refine wp_seq ?_
     refine wp_block ?_
     refine s_reg ?_
     refine l_pk 2 (fun L => (13, .int .i64 1) :: (146, .int .i64 1) :: L) F fun a F => ?_
     refine l_then ?_
     refine region_gx (fun D => fun (_ : Unit) => [rest w (· < w.heap.size), box b1 48 [pt g0 0, pt g1 0], box b2 54 [pt m0 0, pt m1 0], sdA g0 (xx.s0.crs o.k0 o.z0), bif D 15 then sdA g1 (xx.s1.crs o.k1 o.z1) else sdA g1 xx.s1, rsA m0 (xx.s0.crs o.k0 o.z0), bif D 15 then rsA m1 (xx.s1.crs o.k1 o.z1) else rsA m1 xx.s1, bif al then lgA bb g0 g1 xx.lb else emp, bif al then rlA bn m0 m1 xx.lb else emp, box b9 33 [.int .i64 o.kind, strV o.nm, strV o.vl, .int .u8 (o.wh : Nat), .int .i64 o.n, .int .i64 o.k0, .int .i64 o.k1, .int .i64 o.z0, .int .i64 o.z1]]) (fun (_ : Unit) => [.int .i64 1, pt b1 1, pt g1 0, .int .i64 1, pt b2 1, pt m1 0, .int .i64 1, pt b9 5, pt b9 6, .int .i64 o.k1, .int .i64 1, pt b9 7, pt b9 8, .int .i64 o.z1, .agg #[.int .i64 4, .int .i64 o.k1, .int .i64 o.z1, .slice none 0 0], .bool true]) [(2, [], [15]), (5, [], [15]), (9, [], [15]), (13, [], [15]), (15, [2, 5, 9, 13], [])] () rfl (by kernel_rfl) (by kernel_rfl) F S.drew ?_ ?_ ?_ ?_ ?_
     · rintro ⟨⟩; rfl
     ·
      rintro ⟨⟩
      refine Eq.trans (b := [some (.int .i64 1), some (pt b1 1), none, some (.int .i64 1), some (pt b2 1), none, some (.int .i64 1), some (pt b9 5), some (pt b9 6), none, some (.int .i64 1), some (pt b9 7), some (pt b9 8), none, some (.agg #[.int .i64 4, .int .i64 o.k1, .int .i64 o.z1, .slice none 0 0]), none]) ?_ ?_ <;> kernel_rfl
     ·
      intro D D' x h
      cases x
      simp only [h 15 (by decide)]
     ·
      refine ⟨?_, ?_⟩
      ·
       refine ⟨_, rfl, rfl, by kernel_rfl, ?_⟩
       rintro D ⟨⟩ a z S F
       refine ⟨by kernel_rfl, ?_⟩
       exact op_ldk (some ⟨b1, 0, none⟩) 1 (pt g1 0) F rfl (cBox S 1 rfl (j := 1) rfl) (⟨(), rfl, (SameB.refl _ _ rfl), S⟩)
      refine ⟨?_, ?_⟩
      ·
       refine ⟨_, rfl, rfl, by kernel_rfl, ?_⟩
       rintro D ⟨⟩ a z S F
       refine ⟨by kernel_rfl, ?_⟩
       exact op_ldk (some ⟨b2, 0, none⟩) 1 (pt m1 0) F rfl (cBox S 2 rfl (j := 1) rfl) (⟨(), rfl, (SameB.refl _ _ rfl), S⟩)
      refine ⟨?_, ?_⟩
      ·
       refine ⟨_, rfl, rfl, by kernel_rfl, ?_⟩
       rintro D ⟨⟩ a z S F
       refine ⟨by kernel_rfl, ?_⟩
       exact op_ldk (some ⟨b9, 0, none⟩) 6 (.int .i64 o.k1) F rfl (cBox S 9 rfl (j := 6) rfl) (⟨(), rfl, (SameB.refl _ _ rfl), S⟩)
      refine ⟨?_, ?_⟩
      ·
       refine ⟨_, rfl, rfl, by kernel_rfl, ?_⟩
       rintro D ⟨⟩ a z S F
       refine ⟨by kernel_rfl, ?_⟩
       exact op_ldk (some ⟨b9, 0, none⟩) 8 (.int .i64 o.z1) F rfl (cBox S 9 rfl (j := 8) rfl) (⟨(), rfl, (SameB.refl _ _ rfl), S⟩)
      refine ⟨?_, ?_⟩
      ·
       refine ⟨_, rfl, rfl, by kernel_rfl, ?_⟩
       rintro D ⟨⟩ a z S F
       refine ⟨by kernel_rfl, ?_⟩
       have S : Sat w z [rest w (· < w.heap.size), box b1 48 [pt g0 0, pt g1 0], box b2 54 [pt m0 0, pt m1 0], sdA g0 (xx.s0.crs o.k0 o.z0), sdA g1 xx.s1, rsA m0 (xx.s0.crs o.k0 o.z0), rsA m1 xx.s1, bif al then lgA bb g0 g1 xx.lb else emp, bif al then rlA bn m0 m1 xx.lb else emp, box b9 33 [.int .i64 o.kind, strV o.nm, strV o.vl, .int .u8 (o.wh : Nat), .int .i64 o.n, .int .i64 o.k0, .int .i64 o.k1, .int .i64 o.z0, .int .i64 o.z1]] := S
       obtain ⟨G9, g9, hin9, hlt9, k9⟩ := S.frameB [4, 6] (by decide) rfl
       refine op_fn F (by kernel_rfl) (does_crs hi1 (by omega) o.k1 o.z1 hok.k1.1 hok.k1.2 g9) ?_
       rintro e z9 ⟨rfl, g⟩
       have S : Sat w z9 [rest w (· < w.heap.size), box b1 48 [pt g0 0, pt g1 0], box b2 54 [pt m0 0, pt m1 0], sdA g0 (xx.s0.crs o.k0 o.z0), sdA g1 (xx.s1.crs o.k1 o.z1), rsA m0 (xx.s0.crs o.k0 o.z0), rsA m1 (xx.s1.crs o.k1 o.z1), bif al then lgA bb g0 g1 xx.lb else emp, bif al then rlA bn m0 m1 xx.lb else emp, box b9 33 [.int .i64 o.kind, strV o.nm, strV o.vl, .int .u8 (o.wh : Nat), .int .i64 o.n, .int .i64 o.k0, .int .i64 o.k1, .int .i64 o.z0, .int .i64 o.z1]] := k9 z9 [sdA g1 (xx.s1.crs o.k1 o.z1), rsA m1 (xx.s1.crs o.k1 o.z1)] rfl g
       clear g g9 k9 hin9 hlt9
       exact ⟨_, rfl, (), rfl, (SameB.refl _ _ rfl), S⟩
      trivial
     rintro ⟨⟩ a z F S
     have F := F.subk (l := [(3, pt b1 0), (4, pt b2 0), (5, bif al then pt bb 0 else .pointer none), (7, bif al then pt bn 0 else .pointer none), (10, pt b9 0), (43, .slice Ao O.length co), (44, .int .i64 (O.length : Nat)), (45, .int .i64 (ii : Nat)), (144, .int .i64 1)])
     have S : Sat w z [rest w (· < w.heap.size), box b1 48 [pt g0 0, pt g1 0], box b2 54 [pt m0 0, pt m1 0], sdA g0 (xx.s0.crs o.k0 o.z0), sdA g1 (xx.s1.crs o.k1 o.z1), rsA m0 (xx.s0.crs o.k0 o.z0), rsA m1 (xx.s1.crs o.k1 o.z1), bif al then lgA bb g0 g1 xx.lb else emp, bif al then rlA bn m0 m1 xx.lb else emp, box b9 33 [.int .i64 o.kind, strV o.nm, strV o.vl, .int .u8 (o.wh : Nat), .int .i64 o.n, .int .i64 o.k0, .int .i64 o.k1, .int .i64 o.z0, .int .i64 o.z1]] := S
     refine inb_n ?_
     refine then_n ?_
     refine wp_region_list ?_
     refine l_pk 2 (fun L => (144, .int .i64 2) :: (163, .int .i64 2) :: L) F fun a F => ?_
     refine l_then ?_
     refine rnd ?_
     refine s_reg ?_
     refine l_pk 1 (fun L => (145, .bool false) :: L) F fun a F => ?_
     refine l_then ?_
     refine wp_seq ?_
     refine c_f F rfl ?_
     refine wp_exit ?_
     refine then_x ?_
     refine then_x ?_
     refine inb_x ?_
     refine then_n ?_
     refine s_reg ?_
     refine l_pk 1 (fun L => (165, pt b1 0) :: L) F fun a F => ?_
     refine l_do F rfl rfl (op_ldk (some ⟨b1, 0, none⟩) 0 (pt g0 0) F rfl (cBox S 1 rfl (j := 0) rfl) (fun a F => ?_))
     refine l_pk 1 (fun L => (167, pt b1 1) :: L) F fun a F => ?_
     refine l_do F rfl rfl (op_ldk (some ⟨b1, 0, none⟩) 1 (pt g1 0) F rfl (cBox S 1 rfl (j := 1) rfl) (fun a F => ?_))
     by_cases ht25 : ((openT (xx.s0.crs o.k0 o.z0) (xx.s1.crs o.k1 o.z1)).1 : Int) = (0 : Int)
     ·
      obtain ⟨G9, g9, hin9, hlt9, k9⟩ := S.frameB [3, 4] (by decide) rfl
      refine l_do F rfl rfl (op_fn F (by kernel_rfl) (lopen_ok (4 * (ii : Int) + 3) (hi0.crs _ _) (hi1.crs _ _) (by omega) rfl rfl ht25 g9) ?_)
      rintro e z9 ⟨bl2, rfl, g⟩
      have S : Sat w z9 [rest w (· < w.heap.size), box b1 48 [pt g0 0, pt g1 0], box b2 54 [pt m0 0, pt m1 0], star2 (sdA g0 (openT (xx.s0.crs o.k0 o.z0) (xx.s1.crs o.k1 o.z1)).2.s0) (lgA bl2 g0 g1 (openT (xx.s0.crs o.k0 o.z0) (xx.s1.crs o.k1 o.z1)).2.lb), sdA g1 (openT (xx.s0.crs o.k0 o.z0) (xx.s1.crs o.k1 o.z1)).2.s1, rsA m0 (xx.s0.crs o.k0 o.z0), rsA m1 (xx.s1.crs o.k1 o.z1), bif al then lgA bb g0 g1 xx.lb else emp, bif al then rlA bn m0 m1 xx.lb else emp, box b9 33 [.int .i64 o.kind, strV o.nm, strV o.vl, .int .u8 (o.wh : Nat), .int .i64 o.n, .int .i64 o.k0, .int .i64 o.k1, .int .i64 o.z0, .int .i64 o.z1]] := k9 z9 [star2 (sdA g0 (openT (xx.s0.crs o.k0 o.z0) (xx.s1.crs o.k1 o.z1)).2.s0) (lgA bl2 g0 g1 (openT (xx.s0.crs o.k0 o.z0) (xx.s1.crs o.k1 o.z1)).2.lb), sdA g1 (openT (xx.s0.crs o.k0 o.z0) (xx.s1.crs o.k1 o.z1)).2.s1] rfl g
      clear g g9 k9 hin9 hlt9
      have S := S.open2 (i := 3) rfl
      have S : Sat w z9 [rest w (· < w.heap.size), box b1 48 [pt g0 0, pt g1 0], box b2 54 [pt m0 0, pt m1 0], sdA g0 (openT (xx.s0.crs o.k0 o.z0) (xx.s1.crs o.k1 o.z1)).2.s0, sdA g1 (openT (xx.s0.crs o.k0 o.z0) (xx.s1.crs o.k1 o.z1)).2.s1, rsA m0 (xx.s0.crs o.k0 o.z0), rsA m1 (xx.s1.crs o.k1 o.z1), bif al then lgA bb g0 g1 xx.lb else emp, bif al then rlA bn m0 m1 xx.lb else emp, box b9 33 [.int .i64 o.kind, strV o.nm, strV o.vl, .int .u8 (o.wh : Nat), .int .i64 o.n, .int .i64 o.k0, .int .i64 o.k1, .int .i64 o.z0, .int .i64 o.z1], lgA bl2 g0 g1 (openT (xx.s0.crs o.k0 o.z0) (xx.s1.crs o.k1 o.z1)).2.lb] := S
      refine ⟨_, rfl, ?_⟩
      intro a F
      refine l_pk 5 (fun L => (6, .int .i64 0) :: (5, pt bl2 0) :: (171, .int .i64 0) :: (170, pt bl2 0) :: (164, .tuple #[pt bl2 0, .int .i64 0]) :: L) F fun a F => ?_
      refine l_then ?_
      refine s_reg ?_
      refine l_pk 1 (fun L => (173, pt b2 0) :: L) F fun a F => ?_
      refine l_do F rfl rfl (op_ldk (some ⟨b2, 0, none⟩) 0 (pt m0 0) F rfl (cBox S 2 rfl (j := 0) rfl) (fun a F => ?_))
      refine l_pk 1 (fun L => (175, pt b2 1) :: L) F fun a F => ?_
      refine l_do F rfl rfl (op_ldk (some ⟨b2, 0, none⟩) 1 (pt m1 0) F rfl (cBox S 2 rfl (j := 1) rfl) (fun a F => ?_))
      obtain ⟨G9, g9, hin9, hlt9, k9⟩ := S.frameB [5, 6] (by decide) rfl
      refine l_do F rfl rfl (op_fn F (by kernel_rfl) (ropen_ok (4 * (ii : Int) + 3) (hi0.crs _ _) (hi1.crs _ _) (by omega) rfl rfl ht25 g9) ?_)
      rintro e z9 ⟨bm2, rfl, g⟩
      have S : Sat w z9 [rest w (· < w.heap.size), box b1 48 [pt g0 0, pt g1 0], box b2 54 [pt m0 0, pt m1 0], sdA g0 (openT (xx.s0.crs o.k0 o.z0) (xx.s1.crs o.k1 o.z1)).2.s0, sdA g1 (openT (xx.s0.crs o.k0 o.z0) (xx.s1.crs o.k1 o.z1)).2.s1, star2 (rsA m0 (openT (xx.s0.crs o.k0 o.z0) (xx.s1.crs o.k1 o.z1)).2.s0) (rlA bm2 m0 m1 (openT (xx.s0.crs o.k0 o.z0) (xx.s1.crs o.k1 o.z1)).2.lb), rsA m1 (openT (xx.s0.crs o.k0 o.z0) (xx.s1.crs o.k1 o.z1)).2.s1, bif al then lgA bb g0 g1 xx.lb else emp, bif al then rlA bn m0 m1 xx.lb else emp, box b9 33 [.int .i64 o.kind, strV o.nm, strV o.vl, .int .u8 (o.wh : Nat), .int .i64 o.n, .int .i64 o.k0, .int .i64 o.k1, .int .i64 o.z0, .int .i64 o.z1], lgA bl2 g0 g1 (openT (xx.s0.crs o.k0 o.z0) (xx.s1.crs o.k1 o.z1)).2.lb] := k9 z9 [star2 (rsA m0 (openT (xx.s0.crs o.k0 o.z0) (xx.s1.crs o.k1 o.z1)).2.s0) (rlA bm2 m0 m1 (openT (xx.s0.crs o.k0 o.z0) (xx.s1.crs o.k1 o.z1)).2.lb), rsA m1 (openT (xx.s0.crs o.k0 o.z0) (xx.s1.crs o.k1 o.z1)).2.s1] rfl g
      clear g g9 k9 hin9 hlt9
      have S := S.open2 (i := 5) rfl
      have S : Sat w z9 [rest w (· < w.heap.size), box b1 48 [pt g0 0, pt g1 0], box b2 54 [pt m0 0, pt m1 0], sdA g0 (openT (xx.s0.crs o.k0 o.z0) (xx.s1.crs o.k1 o.z1)).2.s0, sdA g1 (openT (xx.s0.crs o.k0 o.z0) (xx.s1.crs o.k1 o.z1)).2.s1, rsA m0 (openT (xx.s0.crs o.k0 o.z0) (xx.s1.crs o.k1 o.z1)).2.s0, rsA m1 (openT (xx.s0.crs o.k0 o.z0) (xx.s1.crs o.k1 o.z1)).2.s1, bif al then lgA bb g0 g1 xx.lb else emp, bif al then rlA bn m0 m1 xx.lb else emp, box b9 33 [.int .i64 o.kind, strV o.nm, strV o.vl, .int .u8 (o.wh : Nat), .int .i64 o.n, .int .i64 o.k0, .int .i64 o.k1, .int .i64 o.z0, .int .i64 o.z1], lgA bl2 g0 g1 (openT (xx.s0.crs o.k0 o.z0) (xx.s1.crs o.k1 o.z1)).2.lb, rlA bm2 m0 m1 (openT (xx.s0.crs o.k0 o.z0) (xx.s1.crs o.k1 o.z1)).2.lb] := S
      refine ⟨_, rfl, ?_⟩
      intro a F
      refine l_pk 5 (fun L => (8, .int .i64 0) :: (7, pt bm2 0) :: (179, .int .i64 0) :: (178, pt bm2 0) :: (172, .tuple #[pt bm2 0, .int .i64 0]) :: L) F fun a F => ?_
      refine l_then ?_
      refine wp_region_list ?_
      refine l_pk 11 (fun L => (12, .bool true) :: (189, .bool true) :: (188, .bool true) :: (187, .bool false) :: (186, pt bm2 0) :: (185, .bool false) :: (184, pt bl2 0) :: (183, .bool true) :: (182, .bool true) :: (181, .int .i64 0) :: (180, .int .i64 0) :: L) F fun a F => ?_
      refine l_nil (inb_n ?_)
      refine then_n ?_
      exact hcut33 _ _ ⟨(openT (xx.s0.crs o.k0 o.z0) (xx.s1.crs o.k1 o.z1)).2, true, bl2, bm2, ((open_in (hi0.crs o.k0 o.z0) (hi1.crs o.k1 o.z1)).1.mono (by omega)), ((open_in (hi0.crs o.k0 o.z0) (hi1.crs o.k1 o.z1)).2.mono (by omega)), (fun _ => (open_lb (hi0.crs o.k0 o.z0) (hi1.crs o.k1 o.z1)).up (by omega)), F.subk, (S.pick [0, 1, 2, 3, 4, 5, 6, 10, 11] (by decide))⟩
     obtain ⟨G9, g9, hin9, hlt9, k9⟩ := S.frameB [3, 4] (by decide) rfl
     refine l_do F rfl rfl (op_fn F (by kernel_rfl) (lopen_er (4 * (ii : Int) + 3) (hi0.crs _ _) (hi1.crs _ _) (by omega) rfl rfl ht25 g9) ?_)
     rintro e z9 ⟨rfl, g⟩
     have S : Sat w z9 [rest w (· < w.heap.size), box b1 48 [pt g0 0, pt g1 0], box b2 54 [pt m0 0, pt m1 0], sdA g0 (openT (xx.s0.crs o.k0 o.z0) (xx.s1.crs o.k1 o.z1)).2.s0, sdA g1 (openT (xx.s0.crs o.k0 o.z0) (xx.s1.crs o.k1 o.z1)).2.s1, rsA m0 (xx.s0.crs o.k0 o.z0), rsA m1 (xx.s1.crs o.k1 o.z1), bif al then lgA bb g0 g1 xx.lb else emp, bif al then rlA bn m0 m1 xx.lb else emp, box b9 33 [.int .i64 o.kind, strV o.nm, strV o.vl, .int .u8 (o.wh : Nat), .int .i64 o.n, .int .i64 o.k0, .int .i64 o.k1, .int .i64 o.z0, .int .i64 o.z1]] := k9 z9 [sdA g0 (openT (xx.s0.crs o.k0 o.z0) (xx.s1.crs o.k1 o.z1)).2.s0, sdA g1 (openT (xx.s0.crs o.k0 o.z0) (xx.s1.crs o.k1 o.z1)).2.s1] rfl g
     clear g g9 k9 hin9 hlt9
     refine ⟨_, rfl, ?_⟩
     intro a F
     refine l_pk 5 (fun L => (6, .int .i64 ((openT (xx.s0.crs o.k0 o.z0) (xx.s1.crs o.k1 o.z1)).1)) :: (5, .pointer none) :: (171, .int .i64 ((openT (xx.s0.crs o.k0 o.z0) (xx.s1.crs o.k1 o.z1)).1)) :: (170, .pointer none) :: (164, .tuple #[.pointer none, .int .i64 ((openT (xx.s0.crs o.k0 o.z0) (xx.s1.crs o.k1 o.z1)).1)]) :: L) F fun a F => ?_
     refine l_then ?_
     refine s_reg ?_
     refine l_pk 1 (fun L => (173, pt b2 0) :: L) F fun a F => ?_
     refine l_do F rfl rfl (op_ldk (some ⟨b2, 0, none⟩) 0 (pt m0 0) F rfl (cBox S 2 rfl (j := 0) rfl) (fun a F => ?_))
     refine l_pk 1 (fun L => (175, pt b2 1) :: L) F fun a F => ?_
     refine l_do F rfl rfl (op_ldk (some ⟨b2, 0, none⟩) 1 (pt m1 0) F rfl (cBox S 2 rfl (j := 1) rfl) (fun a F => ?_))
     obtain ⟨G9, g9, hin9, hlt9, k9⟩ := S.frameB [5, 6] (by decide) rfl
     refine l_do F rfl rfl (op_fn F (by kernel_rfl) (ropen_er (4 * (ii : Int) + 3) (hi0.crs _ _) (hi1.crs _ _) (by omega) rfl rfl ht25 g9) ?_)
     rintro e z9 ⟨rfl, g⟩
     have S : Sat w z9 [rest w (· < w.heap.size), box b1 48 [pt g0 0, pt g1 0], box b2 54 [pt m0 0, pt m1 0], sdA g0 (openT (xx.s0.crs o.k0 o.z0) (xx.s1.crs o.k1 o.z1)).2.s0, sdA g1 (openT (xx.s0.crs o.k0 o.z0) (xx.s1.crs o.k1 o.z1)).2.s1, rsA m0 (openT (xx.s0.crs o.k0 o.z0) (xx.s1.crs o.k1 o.z1)).2.s0, rsA m1 (openT (xx.s0.crs o.k0 o.z0) (xx.s1.crs o.k1 o.z1)).2.s1, bif al then lgA bb g0 g1 xx.lb else emp, bif al then rlA bn m0 m1 xx.lb else emp, box b9 33 [.int .i64 o.kind, strV o.nm, strV o.vl, .int .u8 (o.wh : Nat), .int .i64 o.n, .int .i64 o.k0, .int .i64 o.k1, .int .i64 o.z0, .int .i64 o.z1]] := k9 z9 [rsA m0 (openT (xx.s0.crs o.k0 o.z0) (xx.s1.crs o.k1 o.z1)).2.s0, rsA m1 (openT (xx.s0.crs o.k0 o.z0) (xx.s1.crs o.k1 o.z1)).2.s1] rfl g
     clear g g9 k9 hin9 hlt9
     refine ⟨_, rfl, ?_⟩
     intro a F
     refine l_pk 5 (fun L => (8, .int .i64 ((openT (xx.s0.crs o.k0 o.z0) (xx.s1.crs o.k1 o.z1)).1)) :: (7, .pointer none) :: (179, .int .i64 ((openT (xx.s0.crs o.k0 o.z0) (xx.s1.crs o.k1 o.z1)).1)) :: (178, .pointer none) :: (172, .tuple #[.pointer none, .int .i64 ((openT (xx.s0.crs o.k0 o.z0) (xx.s1.crs o.k1 o.z1)).1)]) :: L) F fun a F => ?_
     refine l_then ?_
     refine wp_region_list ?_
     refine l_pk 2 (fun L => (181, .int .i64 ((openT (xx.s0.crs o.k0 o.z0) (xx.s1.crs o.k1 o.z1)).1)) :: (180, .int .i64 ((openT (xx.s0.crs o.k0 o.z0) (xx.s1.crs o.k1 o.z1)).1)) :: L) F fun a F => ?_
     refine l_do F rfl rfl (op_pk F (v0 := .bool (((openT (xx.s0.crs o.k0 o.z0) (xx.s1.crs o.k1 o.z1)).1 : Int) == ((openT (xx.s0.crs o.k0 o.z0) (xx.s1.crs o.k1 o.z1)).1 : Int))) (v := .bool true) (eqlT rfl) fun a F => ?_)
     refine l_pk 8 (fun L => (12, .bool true) :: (189, .bool true) :: (188, .bool true) :: (187, .bool true) :: (186, .pointer none) :: (185, .bool true) :: (184, .pointer none) :: (183, .bool true) :: L) F fun a F => ?_
     refine l_nil (inb_n ?_)
     refine then_n ?_
     have S := S.pushEmp.pushEmp
     exact hcut33 _ _ ⟨(openT (xx.s0.crs o.k0 o.z0) (xx.s1.crs o.k1 o.z1)).2, false, bb, bn, ((open_in (hi0.crs o.k0 o.z0) (hi1.crs o.k1 o.z1)).1.mono (by omega)), ((open_in (hi0.crs o.k0 o.z0) (hi1.crs o.k1 o.z1)).2.mono (by omega)), nofun, F.subk, (S.pick [0, 1, 2, 3, 4, 5, 6, 10, 11] (by decide))⟩
    refine l_do F rfl rfl (op_pk F (v0 := .bool ((o.kind : Int) == (5 : Int))) (v := .bool false) (eqlF ht24) fun a F => ?_)
    refine l_pk 1 (fun L => (140, .bool false) :: L) F fun a F => ?_
    refine l_then ?_
    refine c_f F rfl ?_
    refine s_reg ?_
    refine l_pk 1 (fun L => (191, pt b9 0) :: L) F fun a F => ?_
    refine l_do F rfl rfl (op_ldk (some ⟨b9, 0, none⟩) 0 (.int .i64 o.kind) F rfl (cBox S 9 rfl (j := 0) rfl) (fun a F => ?_))
    by_cases ht26 : (o.kind : Int) = (6 : Int)
    ·
     refine l_do F rfl rfl (op_pk F (v0 := .bool ((o.kind : Int) == (6 : Int))) (v := .bool true) (eqlT ht26) fun a F => ?_)
     refine l_pk 1 (fun L => (190, .bool true) :: L) F fun a F => ?_
     refine l_then ?_
     refine c_t F rfl ?_
     have S := S.pushEmp
     refine region_gx (fun D => fun ((b27, c28) : Nat × Nat) => [rest w (· < w.heap.size), box b1 48 [pt g0 0, pt g1 0], box b2 54 [pt m0 0, pt m1 0], bif D 10 then sdA g0 (xx.s0.app o.vl) else sdA g0 xx.s0, sdA g1 xx.s1, bif D 10 then rsA m0 (xx.s0.app o.vl) else rsA m0 xx.s0, rsA m1 xx.s1, bif al then lgA bb g0 g1 xx.lb else emp, bif al then rlA bn m0 m1 xx.lb else emp, box b9 33 [.int .i64 o.kind, strV o.nm, strV o.vl, .int .u8 (o.wh : Nat), .int .i64 o.n, .int .i64 o.k0, .int .i64 o.k1, .int .i64 o.z0, .int .i64 o.z1], bif D 8 then sbA b27 5 o.vl c28 else emp]) (fun ((b27, c28) : Nat × Nat) => [.int .i64 0, pt b1 0, pt g0 0, .int .i64 0, pt b2 0, pt m0 0, pt b9 2, strV o.vl, .slice (some ⟨b27, 0, none⟩) o.vl.length c28, .agg #[.int .i64 0, .int .i64 0, .int .i64 0, .slice (some ⟨b27, 0, none⟩) o.vl.length c28], .bool true]) [(2, [], [10]), (5, [], [10]), (7, [], [8, 10]), (8, [7], [10]), (10, [2, 5, 7, 8], [])] (0, 0) rfl (by kernel_rfl) (by kernel_rfl) F S.drew ?_ ?_ ?_ ?_ ?_
     · rintro ⟨b27, c28⟩; rfl
     · rintro ⟨b27, c28⟩; kernel_rfl
     ·
      intro D D' x h
      obtain ⟨b27, c28⟩ := x
      simp only [h 8 (by decide), h 10 (by decide)]
     ·
      refine ⟨?_, ?_⟩
      ·
       refine ⟨_, rfl, rfl, by kernel_rfl, ?_⟩
       rintro D ⟨b27, c28⟩ a z S F
       refine ⟨by kernel_rfl, ?_⟩
       exact op_ldk (some ⟨b1, 0, none⟩) 0 (pt g0 0) F rfl (cBox S 1 rfl (j := 0) rfl) (⟨(b27, c28), rfl, (SameB.refl _ _ rfl), S⟩)
      refine ⟨?_, ?_⟩
      ·
       refine ⟨_, rfl, rfl, by kernel_rfl, ?_⟩
       rintro D ⟨b27, c28⟩ a z S F
       refine ⟨by kernel_rfl, ?_⟩
       exact op_ldk (some ⟨b2, 0, none⟩) 0 (pt m0 0) F rfl (cBox S 2 rfl (j := 0) rfl) (⟨(b27, c28), rfl, (SameB.refl _ _ rfl), S⟩)
      refine ⟨?_, ?_⟩
      ·
       refine ⟨_, rfl, rfl, by kernel_rfl, ?_⟩
       rintro D ⟨b27, c28⟩ a z S F
       refine ⟨by kernel_rfl, ?_⟩
       exact op_ldk (some ⟨b9, 0, none⟩) 2 (strV o.vl) F rfl (cBox S 9 rfl (j := 2) rfl) (⟨(b27, c28), rfl, (SameB.refl _ _ rfl), S⟩)
      refine ⟨?_, ?_⟩
      ·
       refine ⟨_, rfl, rfl, by kernel_rfl, ?_⟩
       rintro D ⟨b27, c28⟩ a z S F
       refine ⟨by kernel_rfl, ?_⟩
       exact op_bytesF S 10 rfl _ _ 5 _ o.vl F rfl (by kernel_rfl) (by kernel_rfl) (by kernel_rfl) (by kernel_rfl) fun y29 y30 z S => ⟨(y29, y30), rfl, ⟨rfl, rfl, rfl, rfl, rfl, rfl, rfl, rfl, trivial, trivial, trivial, trivial⟩, S⟩
      refine ⟨?_, ?_⟩
      ·
       refine ⟨_, rfl, rfl, by kernel_rfl, ?_⟩
       rintro D ⟨b27, c28⟩ a z S F
       refine ⟨by kernel_rfl, ?_⟩
       have S : Sat w z [rest w (· < w.heap.size), box b1 48 [pt g0 0, pt g1 0], box b2 54 [pt m0 0, pt m1 0], sdA g0 xx.s0, sdA g1 xx.s1, rsA m0 xx.s0, rsA m1 xx.s1, bif al then lgA bb g0 g1 xx.lb else emp, bif al then rlA bn m0 m1 xx.lb else emp, box b9 33 [.int .i64 o.kind, strV o.nm, strV o.vl, .int .u8 (o.wh : Nat), .int .i64 o.n, .int .i64 o.k0, .int .i64 o.k1, .int .i64 o.z0, .int .i64 o.z1], sbA b27 5 o.vl c28] := S
       obtain ⟨G9, g9, hin9, hlt9, k9⟩ := S.frameB [3, 5] (by decide) rfl
       refine op_fn F (by kernel_rfl) (does_app hi0 (by omega) o.vl _ c28 (S.sbOf (i := 10) rfl (by omega)) (InG.sb S hin9 10 (by decide) rfl) g9) ?_
       rintro e z9 ⟨rfl, g⟩
       have S : Sat w z9 [rest w (· < w.heap.size), box b1 48 [pt g0 0, pt g1 0], box b2 54 [pt m0 0, pt m1 0], sdA g0 (xx.s0.app o.vl), sdA g1 xx.s1, rsA m0 (xx.s0.app o.vl), rsA m1 xx.s1, bif al then lgA bb g0 g1 xx.lb else emp, bif al then rlA bn m0 m1 xx.lb else emp, box b9 33 [.int .i64 o.kind, strV o.nm, strV o.vl, .int .u8 (o.wh : Nat), .int .i64 o.n, .int .i64 o.k0, .int .i64 o.k1, .int .i64 o.z0, .int .i64 o.z1], sbA b27 5 o.vl c28] := k9 z9 [sdA g0 (xx.s0.app o.vl), rsA m0 (xx.s0.app o.vl)] rfl g
       clear g g9 k9 hin9 hlt9
       exact ⟨_, rfl, (b27, c28), rfl, (SameB.refl _ _ rfl), S⟩
      trivial
     rintro ⟨b27, c28⟩ a z F S
     have F := F.subk (l := [(3, pt b1 0), (4, pt b2 0), (5, bif al then pt bb 0 else .pointer none), (7, bif al then pt bn 0 else .pointer none), (12, .bool true), (43, .slice Ao O.length co), (44, .int .i64 (O.length : Nat)), (45, .int .i64 (ii : Nat))])
     have S : Sat w z [rest w (· < w.heap.size), box b1 48 [pt g0 0, pt g1 0], box b2 54 [pt m0 0, pt m1 0], sdA g0 (xx.s0.app o.vl), sdA g1 xx.s1, rsA m0 (xx.s0.app o.vl), rsA m1 xx.s1, bif al then lgA bb g0 g1 xx.lb else emp, bif al then rlA bn m0 m1 xx.lb else emp, box b9 33 [.int .i64 o.kind, strV o.nm, strV o.vl, .int .u8 (o.wh : Nat), .int .i64 o.n, .int .i64 o.k0, .int .i64 o.k1, .int .i64 o.z0, .int .i64 o.z1], sbA b27 5 o.vl c28] := S
     refine inb_n ?_
     refine then_n ?_
     exact hcut33 _ _ ⟨(⟨xx.lb, (xx.s0.app o.vl), xx.s1⟩ : Lg), al, bb, bn, ((hi0.app o.vl).mono (by omega)), (hi1.mono (by omega)), (fun h9 => (hlb h9).up (by omega)), F.subk, (S.pick [0, 1, 2, 3, 4, 5, 6, 7, 8] (by decide))⟩
    refine l_do F rfl rfl (op_pk F (v0 := .bool ((o.kind : Int) == (6 : Int))) (v := .bool false) (eqlF ht26) fun a F => ?_)
    refine l_pk 1 (fun L => (190, .bool false) :: L) F fun a F => ?_
    refine l_then ?_
    refine c_f F rfl ?_
    refine wp_skip ?_
    refine inb_n ?_
    refine then_n ?_
    exact hcut33 _ _ ⟨(⟨xx.lb, xx.s0, xx.s1⟩ : Lg), al, bb, bn, (hi0.mono (by omega)), (hi1.mono (by omega)), (fun h9 => (hlb h9).up (by omega)), F.subk, (S.pick [0, 1, 2, 3, 4, 5, 6, 7, 8] (by decide))⟩
   refine l_do F rfl rfl (op_rem _ _ _ _ .u8 (o.wh : Nat) 2 F rfl (by kernel_rfl) (by kernel_rfl) (by omega) ((Int.tmod_eq_emod_of_nonneg (by omega)).trans (show ((o.wh : Nat) : Int) % 2 = 1 from by omega)) (fun a F => ?_))
   refine l_pk 2 (fun L => (11, .int .i64 1) :: (60, .int .i64 1) :: L) F fun a F => ?_
   refine l_then ?_
   refine cutK 2 (fun a z => ∃ (yy : Lg) (al2 : Bool) (bc : Nat) (bd : Nat), (yy.s0.In (4 * ((ii + 1 : Nat) : Int) + 3)) ∧ (yy.s1.In (4 * ((ii + 1 : Nat) : Int) + 3)) ∧ (al2 = true → LbOk yy.lb (262144 + (ii + 1))) ∧ Fr a 235 [(3, pt b1 0), (4, pt b2 0), (5, bif al2 then pt bc 0 else .pointer none), (7, bif al2 then pt bd 0 else .pointer none), (12, .bool true), (43, .slice Ao O.length co), (44, .int .i64 (O.length : Nat)), (45, .int .i64 (ii : Nat))] ∧ Sat w z [rest w (· < w.heap.size), box b1 48 [pt g0 0, pt g1 0], box b2 54 [pt m0 0, pt m1 0], sdA g0 yy.s0, sdA g1 yy.s1, rsA m0 yy.s0, rsA m1 yy.s1, bif al2 then lgA bc g0 g1 yy.lb else emp, bif al2 then rlA bd m0 m1 yy.lb else emp]) ?_ ?_
   ·
    rintro a z ⟨yy, al2, bc, bd, hf31, hf32, hf33, F, S⟩
    dsimp only [tailAt]
    obtain ⟨hi0, hi1, hlb⟩ := And.intro hf31 (And.intro hf32 hf33)
    refine s_reg ?_
    refine l_pk 4 (fun L => (208, pt b1 0) :: (207, .bool false) :: (206, .bool false) :: (205, .bool true) :: L) F fun a F => ?_
    refine l_do F rfl rfl (op_ldk (some ⟨b1, 0, none⟩) 0 (pt g0 0) F rfl (cBox S 1 rfl (j := 0) rfl) (fun a F => ?_))
    refine l_pk 1 (fun L => (210, pt b2 0) :: L) F fun a F => ?_
    refine l_do F rfl rfl (op_ldk (some ⟨b2, 0, none⟩) 0 (pt m0 0) F rfl (cBox S 2 rfl (j := 0) rfl) (fun a F => ?_))
    refine l_do F rfl rfl (op_fn F (by kernel_rfl) (is_sat S (i := 3) (j := 5) rfl rfl hi0 (by omega)) ?_)
    rintro e z ⟨rfl, S⟩
    refine ⟨_, rfl, ?_⟩
    intro a F
    refine l_pk 4 (fun L => (216, pt b1 1) :: (215, .bool false) :: (214, .bool false) :: (213, .bool false) :: L) F fun a F => ?_
    refine l_do F rfl rfl (op_ldk (some ⟨b1, 0, none⟩) 1 (pt g1 0) F rfl (cBox S 1 rfl (j := 1) rfl) (fun a F => ?_))
    refine l_pk 1 (fun L => (218, pt b2 1) :: L) F fun a F => ?_
    refine l_do F rfl rfl (op_ldk (some ⟨b2, 0, none⟩) 1 (pt m1 0) F rfl (cBox S 2 rfl (j := 1) rfl) (fun a F => ?_))
    refine l_do F rfl rfl (op_fn F (by kernel_rfl) (is_sat S (i := 4) (j := 6) rfl rfl hi1 (by omega)) ?_)
    rintro e z ⟨rfl, S⟩
    refine ⟨_, rfl, ?_⟩
    intro a F
    refine l_pk 4 (fun L => (224, bif al2 then pt bd 0 else .pointer none) :: (223, .bool false) :: (222, .bool false) :: (221, .bool false) :: L) F fun a F => ?_
    cases al2 with
    | false =>
     skip
     have S : Sat w z [rest w (· < w.heap.size), box b1 48 [pt g0 0, pt g1 0], box b2 54 [pt m0 0, pt m1 0], sdA g0 yy.s0, sdA g1 yy.s1, rsA m0 yy.s0, rsA m1 yy.s1, emp, emp] := S
     refine l_pk 8 (fun L => (232, .bool false) :: (231, .bool false) :: (230, undef) :: (229, undef) :: (228, undef) :: (227, undef) :: (226, .bool false) :: (225, .bool false) :: L) F fun a F => ?_
     refine l_then ?_
     refine c_f F rfl ?_
     refine wp_skip ?_
     refine inb_n ?_
     refine then_n ?_
     refine wp_region_list ?_
     refine l_do F rfl rfl (op_pk F (v0 := .int .i64 (IntKind.wrap .i64 ((ii : Nat) + 1))) (v := .int .i64 (ii + 1 : Nat)) (wrn_i64 (by omega) (by omega) (by omega)) fun a F => ?_)
     refine l_pk 1 (fun L => (45, .int .i64 (ii + 1 : Nat)) :: L) F fun a F => ?_
     refine l_then ?_
     exact ⟨_, (by omega), (ii + 1), yy, false, bc, bd, rfl, (by omega), (by omega), hi0, hi1, nofun, F.subk, (S.pick [0, 1, 2, 3, 4, 5, 6, 7, 8] (by decide))⟩
    | true =>
     skip
     have S : Sat w z [rest w (· < w.heap.size), box b1 48 [pt g0 0, pt g1 0], box b2 54 [pt m0 0, pt m1 0], sdA g0 yy.s0, sdA g1 yy.s1, rsA m0 yy.s0, rsA m1 yy.s1, lgA bc g0 g1 yy.lb, rlA bd m0 m1 yy.lb] := S
     have hlb := hlb rfl
     have hlb9 := hlb.up (m := 900000) (by omega)
     refine l_pk 4 (fun L => (228, pt bd 0) :: (227, pt bc 0) :: (226, .bool true) :: (225, .bool true) :: L) F fun a F => ?_
     obtain ⟨G9, g9, hin9, hlt9, k9⟩ := S.frameB [7, 8] (by decide) rfl
     refine l_do F rfl rfl (op_fn F (by kernel_rfl) (same17 _ G9 bc g0 g1 bd m0 m1 yy.lb hlb9 g9) ?_)
     rintro e z9 ⟨rfl, g⟩
     have S : Sat w z9 [rest w (· < w.heap.size), box b1 48 [pt g0 0, pt g1 0], box b2 54 [pt m0 0, pt m1 0], sdA g0 yy.s0, sdA g1 yy.s1, rsA m0 yy.s0, rsA m1 yy.s1, lgA bc g0 g1 yy.lb, rlA bd m0 m1 yy.lb] := k9 z9 [lgA bc g0 g1 yy.lb, rlA bd m0 m1 yy.lb] rfl g
     clear g g9 k9 hin9 hlt9
     refine ⟨_, rfl, ?_⟩
     intro a F
     refine l_pk 3 (fun L => (232, .bool false) :: (231, .bool false) :: (230, .bool false) :: L) F fun a F => ?_
     refine l_then ?_
     refine c_f F rfl ?_
     refine wp_skip ?_
     refine inb_n ?_
     refine then_n ?_
     refine wp_region_list ?_
     refine l_do F rfl rfl (op_pk F (v0 := .int .i64 (IntKind.wrap .i64 ((ii : Nat) + 1))) (v := .int .i64 (ii + 1 : Nat)) (wrn_i64 (by omega) (by omega) (by omega)) fun a F => ?_)
     refine l_pk 1 (fun L => (45, .int .i64 (ii + 1 : Nat)) :: L) F fun a F => ?_
     refine l_then ?_
     exact ⟨_, (by omega), (ii + 1), yy, true, bc, bd, rfl, (by omega), (by omega), hi0, hi1, (fun _ => hlb), F.subk, (S.pick [0, 1, 2, 3, 4, 5, 6, 7, 8] (by decide))⟩
   intro hcut33
   dsimp only [tailAt] at hcut33
   refine s_reg ?_
   refine l_pk 1 (fun L => (12, .bool true) :: L) F fun a F => ?_
   refine l_then ?_
   refine wp_seq ?_
   refine wp_block ?_
   refine s_reg ?_
   refine l_pk 1 (fun L => (62, pt b9 0) :: L) F fun a F => ?_
   refine l_do F rfl rfl (op_ldk (some ⟨b9, 0, none⟩) 0 (.int .i64 o.kind) F rfl (cBox S 9 rfl (j := 0) rfl) (fun a F => ?_))
   by_cases ht34 : (o.kind : Int) = (0 : Int)
   ·
    refine l_do F rfl rfl (op_pk F (v0 := .bool ((o.kind : Int) == (0 : Int))) (v := .bool true) (eqlT ht34) fun a F => ?_)
    refine l_pk 2 (fun L => (66, bif al then pt bn 0 else .pointer none) :: (65, .bool true) :: L) F fun a F => ?_
    cases al with
    | false =>
     skip
     have S : Sat w z [rest w (· < w.heap.size), box b1 48 [pt g0 0, pt g1 0], box b2 54 [pt m0 0, pt m1 0], sdA g0 xx.s0, sdA g1 xx.s1, rsA m0 xx.s0, rsA m1 xx.s1, emp, emp, box b9 33 [.int .i64 o.kind, strV o.nm, strV o.vl, .int .u8 (o.wh : Nat), .int .i64 o.n, .int .i64 o.k0, .int .i64 o.k1, .int .i64 o.z0, .int .i64 o.z1]] := S
     refine l_pk 3 (fun L => (61, .bool false) :: (68, .bool false) :: (67, .bool false) :: L) F fun a F => ?_
     refine l_then ?_
     refine c_f F rfl ?_
     refine s_reg ?_
     refine l_pk 1 (fun L => (84, pt b9 0) :: L) F fun a F => ?_
     refine l_do F rfl rfl (op_ldk (some ⟨b9, 0, none⟩) 0 (.int .i64 o.kind) F rfl (cBox S 9 rfl (j := 0) rfl) (fun a F => ?_))
     refine l_do F rfl rfl (op_pk F (v0 := .bool ((o.kind : Int) == (1 : Int))) (v := .bool false) (eqlF (by omega)) fun a F => ?_)
     refine l_pk 5 (fun L => (83, .bool false) :: (90, .bool false) :: (89, undef) :: (88, undef) :: (87, .bool false) :: L) F fun a F => ?_
     refine l_then ?_
     refine c_f F rfl ?_
     refine s_reg ?_
     refine l_pk 1 (fun L => (101, pt b9 0) :: L) F fun a F => ?_
     refine l_do F rfl rfl (op_ldk (some ⟨b9, 0, none⟩) 0 (.int .i64 o.kind) F rfl (cBox S 9 rfl (j := 0) rfl) (fun a F => ?_))
     refine l_do F rfl rfl (op_pk F (v0 := .bool ((o.kind : Int) == (2 : Int))) (v := .bool false) (eqlF (by omega)) fun a F => ?_)
     refine l_pk 5 (fun L => (100, .bool false) :: (107, .bool false) :: (106, undef) :: (105, undef) :: (104, .bool false) :: L) F fun a F => ?_
     refine l_then ?_
     refine c_f F rfl ?_
     refine s_reg ?_
     refine l_pk 1 (fun L => (114, pt b9 0) :: L) F fun a F => ?_
     refine l_do F rfl rfl (op_ldk (some ⟨b9, 0, none⟩) 0 (.int .i64 o.kind) F rfl (cBox S 9 rfl (j := 0) rfl) (fun a F => ?_))
     refine l_do F rfl rfl (op_pk F (v0 := .bool ((o.kind : Int) == (3 : Int))) (v := .bool false) (eqlF (by omega)) fun a F => ?_)
     refine l_pk 5 (fun L => (113, .bool false) :: (120, .bool false) :: (119, undef) :: (118, undef) :: (117, .bool false) :: L) F fun a F => ?_
     refine l_then ?_
     refine c_f F rfl ?_
     refine s_reg ?_
     refine l_pk 1 (fun L => (127, pt b9 0) :: L) F fun a F => ?_
     refine l_do F rfl rfl (op_ldk (some ⟨b9, 0, none⟩) 0 (.int .i64 o.kind) F rfl (cBox S 9 rfl (j := 0) rfl) (fun a F => ?_))
     refine l_do F rfl rfl (op_pk F (v0 := .bool ((o.kind : Int) == (4 : Int))) (v := .bool false) (eqlF (by omega)) fun a F => ?_)
     refine l_pk 1 (fun L => (126, .bool false) :: L) F fun a F => ?_
     refine l_then ?_
     refine c_f F rfl ?_
     refine s_reg ?_
     refine l_pk 1 (fun L => (141, pt b9 0) :: L) F fun a F => ?_
     refine l_do F rfl rfl (op_ldk (some ⟨b9, 0, none⟩) 0 (.int .i64 o.kind) F rfl (cBox S 9 rfl (j := 0) rfl) (fun a F => ?_))
     refine l_do F rfl rfl (op_pk F (v0 := .bool ((o.kind : Int) == (5 : Int))) (v := .bool false) (eqlF (by omega)) fun a F => ?_)
     refine l_pk 1 (fun L => (140, .bool false) :: L) F fun a F => ?_
     refine l_then ?_
     refine c_f F rfl ?_
     refine s_reg ?_
     refine l_pk 1 (fun L => (191, pt b9 0) :: L) F fun a F => ?_
     refine l_do F rfl rfl (op_ldk (some ⟨b9, 0, none⟩) 0 (.int .i64 o.kind) F rfl (cBox S 9 rfl (j := 0) rfl) (fun a F => ?_))
     refine l_do F rfl rfl (op_pk F (v0 := .bool ((o.kind : Int) == (6 : Int))) (v := .bool false) (eqlF (by omega)) fun a F => ?_)
     refine l_pk 1 (fun L => (190, .bool false) :: L) F fun a F => ?_
     refine l_then ?_
     refine c_f F rfl ?_
     refine wp_skip ?_
     refine inb_n ?_
     refine then_n ?_
     exact hcut33 _ _ ⟨(⟨xx.lb, xx.s0, xx.s1⟩ : Lg), false, bb, bn, (hi0.mono (by omega)), (hi1.mono (by omega)), nofun, F.subk, (S.pick [0, 1, 2, 3, 4, 5, 6, 7, 8] (by decide))⟩
    | true =>
     skip
     have S : Sat w z [rest w (· < w.heap.size), box b1 48 [pt g0 0, pt g1 0], box b2 54 [pt m0 0, pt m1 0], sdA g0 xx.s0, sdA g1 xx.s1, rsA m0 xx.s0, rsA m1 xx.s1, lgA bb g0 g1 xx.lb, rlA bn m0 m1 xx.lb, box b9 33 [.int .i64 o.kind, strV o.nm, strV o.vl, .int .u8 (o.wh : Nat), .int .i64 o.n, .int .i64 o.k0, .int .i64 o.k1, .int .i64 o.z0, .int .i64 o.z1]] := S
     have hlb := hlb rfl
     have hlb9 := hlb.up (m := 900000) (by omega)
     have hct := hlb.ct
     refine l_pk 3 (fun L => (61, .bool true) :: (68, .bool true) :: (67, .bool true) :: L) F fun a F => ?_
     refine l_then ?_
     refine c_t F rfl ?_
     have S := S.pushEmp
     refine region_gx (fun D => fun ((b35, c36) : Nat × Nat) => [rest w (· < w.heap.size), box b1 48 [pt g0 0, pt g1 0], box b2 54 [pt m0 0, pt m1 0], bif D 6 then sdA g0 (putT xx o.nm o.vl).2.s0 else sdA g0 xx.s0, bif D 6 then sdA g1 (putT xx o.nm o.vl).2.s1 else sdA g1 xx.s1, bif D 12 then rsA m0 (putT xx o.nm o.vl).2.s0 else rsA m0 xx.s0, bif D 12 then rsA m1 (putT xx o.nm o.vl).2.s1 else rsA m1 xx.s1, bif D 6 then lgA bb g0 g1 (putT xx o.nm o.vl).2.lb else lgA bb g0 g1 xx.lb, bif D 12 then rlA bn m0 m1 (putT xx o.nm o.vl).2.lb else rlA bn m0 m1 xx.lb, box b9 33 [.int .i64 o.kind, strV o.nm, strV o.vl, .int .u8 (o.wh : Nat), .int .i64 o.n, .int .i64 o.k0, .int .i64 o.k1, .int .i64 o.z0, .int .i64 o.z1], bif D 5 then sbA b35 5 o.vl c36 else emp]) (fun ((b35, c36) : Nat × Nat) => [pt bb 0, pt b9 1, strV o.nm, pt b9 2, strV o.vl, .slice (some ⟨b35, 0, none⟩) o.vl.length c36, .int .i64 ((putT xx o.nm o.vl).1), pt bn 0, pt b9 1, strV o.nm, pt b9 2, strV o.vl, .int .i64 ((putT xx o.nm o.vl).1), .bool true, .bool true]) [(2, [], [6, 12, 13]), (4, [], [5, 6, 12, 13]), (5, [4], [6, 12, 13]), (6, [2, 4, 5], [12, 13]), (9, [], [12, 13]), (11, [], [12, 13]), (12, [2, 4, 5, 6, 9, 11], [13]), (13, [2, 4, 5, 6, 9, 11, 12], [])] (0, 0) rfl (by kernel_rfl) (by kernel_rfl) F S.drew ?_ ?_ ?_ ?_ ?_
     · rintro ⟨b35, c36⟩; rfl
     ·
      rintro ⟨b35, c36⟩
      refine Eq.trans (b := [some (pt bb 0), some (pt b9 1), none, some (pt b9 2), none, none, none, some (pt bn 0), some (pt b9 1), none, some (pt b9 2), none, none, none, some (.bool true)]) ?_ ?_ <;> kernel_rfl
     ·
      intro D D' x h
      obtain ⟨b35, c36⟩ := x
      simp only [h 5 (by decide), h 6 (by decide), h 12 (by decide)]
     ·
      refine ⟨?_, ?_⟩
      ·
       refine ⟨_, rfl, rfl, by kernel_rfl, ?_⟩
       rintro D ⟨b35, c36⟩ a z S F
       refine ⟨by kernel_rfl, ?_⟩
       exact op_ldk (some ⟨b9, 0, none⟩) 1 (strV o.nm) F rfl (cBox S 9 rfl (j := 1) rfl) (⟨(b35, c36), rfl, (SameB.refl _ _ rfl), S⟩)
      refine ⟨?_, ?_⟩
      ·
       refine ⟨_, rfl, rfl, by kernel_rfl, ?_⟩
       rintro D ⟨b35, c36⟩ a z S F
       refine ⟨by kernel_rfl, ?_⟩
       exact op_ldk (some ⟨b9, 0, none⟩) 2 (strV o.vl) F rfl (cBox S 9 rfl (j := 2) rfl) (⟨(b35, c36), rfl, (SameB.refl _ _ rfl), S⟩)
      refine ⟨?_, ?_⟩
      ·
       refine ⟨_, rfl, rfl, by kernel_rfl, ?_⟩
       rintro D ⟨b35, c36⟩ a z S F
       refine ⟨by kernel_rfl, ?_⟩
       exact op_bytesF S 10 rfl _ _ 5 _ o.vl F rfl (by kernel_rfl) (by kernel_rfl) (by kernel_rfl) (by kernel_rfl) fun y37 y38 z S => ⟨(y37, y38), rfl, ⟨rfl, rfl, rfl, rfl, rfl, trivial, trivial, rfl, rfl, rfl, rfl, rfl, trivial, trivial, trivial, trivial⟩, S⟩
      refine ⟨?_, ?_⟩
      ·
       refine ⟨_, rfl, rfl, by kernel_rfl, ?_⟩
       rintro D ⟨b35, c36⟩ a z S F
       refine ⟨by kernel_rfl, ?_⟩
       have S : Sat w z [rest w (· < w.heap.size), box b1 48 [pt g0 0, pt g1 0], box b2 54 [pt m0 0, pt m1 0], sdA g0 xx.s0, sdA g1 xx.s1, rsA m0 xx.s0, rsA m1 xx.s1, lgA bb g0 g1 xx.lb, rlA bn m0 m1 xx.lb, box b9 33 [.int .i64 o.kind, strV o.nm, strV o.vl, .int .u8 (o.wh : Nat), .int .i64 o.n, .int .i64 o.k0, .int .i64 o.k1, .int .i64 o.z0, .int .i64 o.z1], sbA b35 5 o.vl c36] := S
       obtain ⟨G9, g9, hin9, hlt9, k9⟩ := S.frameB [7, 3, 4] (by decide) rfl
       refine op_fn F (by kernel_rfl) (lput_any (x := xx) (4 * (ii : Int) + 3) hi0 hi1 (by omega) hlb.on (by omega) o.nm _ c36 o.vl (S.sbOf (i := 10) rfl (by omega)) (InG.sb S hin9 10 (by decide) rfl) g9) ?_
       rintro e z9 ⟨rfl, g⟩
       have S : Sat w z9 [rest w (· < w.heap.size), box b1 48 [pt g0 0, pt g1 0], box b2 54 [pt m0 0, pt m1 0], sdA g0 (putT xx o.nm o.vl).2.s0, sdA g1 (putT xx o.nm o.vl).2.s1, rsA m0 xx.s0, rsA m1 xx.s1, lgA bb g0 g1 (putT xx o.nm o.vl).2.lb, rlA bn m0 m1 xx.lb, box b9 33 [.int .i64 o.kind, strV o.nm, strV o.vl, .int .u8 (o.wh : Nat), .int .i64 o.n, .int .i64 o.k0, .int .i64 o.k1, .int .i64 o.z0, .int .i64 o.z1], sbA b35 5 o.vl c36] := k9 z9 [lgA bb g0 g1 (putT xx o.nm o.vl).2.lb, sdA g0 (putT xx o.nm o.vl).2.s0, sdA g1 (putT xx o.nm o.vl).2.s1] rfl g
       clear g g9 k9 hin9 hlt9
       exact ⟨_, rfl, (b35, c36), rfl, (SameB.refl _ _ rfl), S⟩
      refine ⟨?_, ?_⟩
      ·
       refine ⟨_, rfl, rfl, by kernel_rfl, ?_⟩
       rintro D ⟨b35, c36⟩ a z S F
       refine ⟨by kernel_rfl, ?_⟩
       exact op_ldk (some ⟨b9, 0, none⟩) 1 (strV o.nm) F rfl (cBox S 9 rfl (j := 1) rfl) (⟨(b35, c36), rfl, (SameB.refl _ _ rfl), S⟩)
      refine ⟨?_, ?_⟩
      ·
       refine ⟨_, rfl, rfl, by kernel_rfl, ?_⟩
       rintro D ⟨b35, c36⟩ a z S F
       refine ⟨by kernel_rfl, ?_⟩
       exact op_ldk (some ⟨b9, 0, none⟩) 2 (strV o.vl) F rfl (cBox S 9 rfl (j := 2) rfl) (⟨(b35, c36), rfl, (SameB.refl _ _ rfl), S⟩)
      refine ⟨?_, ?_⟩
      ·
       refine ⟨_, rfl, rfl, by kernel_rfl, ?_⟩
       rintro D ⟨b35, c36⟩ a z S F
       refine ⟨by kernel_rfl, ?_⟩
       have S : Sat w z [rest w (· < w.heap.size), box b1 48 [pt g0 0, pt g1 0], box b2 54 [pt m0 0, pt m1 0], sdA g0 (putT xx o.nm o.vl).2.s0, sdA g1 (putT xx o.nm o.vl).2.s1, rsA m0 xx.s0, rsA m1 xx.s1, lgA bb g0 g1 (putT xx o.nm o.vl).2.lb, rlA bn m0 m1 xx.lb, box b9 33 [.int .i64 o.kind, strV o.nm, strV o.vl, .int .u8 (o.wh : Nat), .int .i64 o.n, .int .i64 o.k0, .int .i64 o.k1, .int .i64 o.z0, .int .i64 o.z1], sbA b35 5 o.vl c36] := S
       obtain ⟨G9, g9, hin9, hlt9, k9⟩ := S.frameB [8, 5, 6] (by decide) rfl
       refine op_fn F (by kernel_rfl) (rput_at (x := xx) (4 * (ii : Int) + 3) hi0 hi1 (by omega) hlb9 o.nm o.vl g9) ?_
       rintro e z9 ⟨rfl, g⟩
       have S : Sat w z9 [rest w (· < w.heap.size), box b1 48 [pt g0 0, pt g1 0], box b2 54 [pt m0 0, pt m1 0], sdA g0 (putT xx o.nm o.vl).2.s0, sdA g1 (putT xx o.nm o.vl).2.s1, rsA m0 (putT xx o.nm o.vl).2.s0, rsA m1 (putT xx o.nm o.vl).2.s1, lgA bb g0 g1 (putT xx o.nm o.vl).2.lb, rlA bn m0 m1 (putT xx o.nm o.vl).2.lb, box b9 33 [.int .i64 o.kind, strV o.nm, strV o.vl, .int .u8 (o.wh : Nat), .int .i64 o.n, .int .i64 o.k0, .int .i64 o.k1, .int .i64 o.z0, .int .i64 o.z1], sbA b35 5 o.vl c36] := k9 z9 [rlA bn m0 m1 (putT xx o.nm o.vl).2.lb, rsA m0 (putT xx o.nm o.vl).2.s0, rsA m1 (putT xx o.nm o.vl).2.s1] rfl g
       clear g g9 k9 hin9 hlt9
       exact ⟨_, rfl, (b35, c36), rfl, (SameB.refl _ _ rfl), S⟩
      refine ⟨?_, ?_⟩
      ·
       refine ⟨_, rfl, rfl, by kernel_rfl, ?_⟩
       rintro D ⟨b35, c36⟩ a z S F
       refine ⟨by kernel_rfl, ?_⟩
       exact op_pk F (v0 := .bool (((putT xx o.nm o.vl).1 : Int) == ((putT xx o.nm o.vl).1 : Int))) (v := .bool true) (eqlT rfl) ⟨(b35, c36), rfl, (SameB.refl _ _ rfl), S⟩
      trivial
     rintro ⟨b35, c36⟩ a z F S
     have F := F.subk (l := [(3, pt b1 0), (4, pt b2 0), (5, pt bb 0), (7, pt bn 0), (12, .bool true), (43, .slice Ao O.length co), (44, .int .i64 (O.length : Nat)), (45, .int .i64 (ii : Nat))])
     have S : Sat w z [rest w (· < w.heap.size), box b1 48 [pt g0 0, pt g1 0], box b2 54 [pt m0 0, pt m1 0], sdA g0 (putT xx o.nm o.vl).2.s0, sdA g1 (putT xx o.nm o.vl).2.s1, rsA m0 (putT xx o.nm o.vl).2.s0, rsA m1 (putT xx o.nm o.vl).2.s1, lgA bb g0 g1 (putT xx o.nm o.vl).2.lb, rlA bn m0 m1 (putT xx o.nm o.vl).2.lb, box b9 33 [.int .i64 o.kind, strV o.nm, strV o.vl, .int .u8 (o.wh : Nat), .int .i64 o.n, .int .i64 o.k0, .int .i64 o.k1, .int .i64 o.z0, .int .i64 o.z1], sbA b35 5 o.vl c36] := S
     refine inb_n ?_
     refine then_n ?_
     exact hcut33 _ _ ⟨(putT xx o.nm o.vl).2, true, bb, bn, ((put_in hi0 hi1 o.nm o.vl).1.mono (by omega)), ((put_in hi0 hi1 o.nm o.vl).2.mono (by omega)), (fun _ => ((put_lb hlb o.nm o.vl).up (by omega))), F.subk, (S.pick [0, 1, 2, 3, 4, 5, 6, 7, 8] (by decide))⟩
   refine l_do F rfl rfl (op_pk F (v0 := .bool ((o.kind : Int) == (0 : Int))) (v := .bool false) (eqlF ht34) fun a F => ?_)
   refine l_pk 5 (fun L => (61, .bool false) :: (68, .bool false) :: (67, undef) :: (66, undef) :: (65, .bool false) :: L) F fun a F => ?_
   refine l_then ?_
   refine c_f F rfl ?_
   refine s_reg ?_
   refine l_pk 1 (fun L => (84, pt b9 0) :: L) F fun a F => ?_
   refine l_do F rfl rfl (op_ldk (some ⟨b9, 0, none⟩) 0 (.int .i64 o.kind) F rfl (cBox S 9 rfl (j := 0) rfl) (fun a F => ?_))
   by_cases ht39 : (o.kind : Int) = (1 : Int)
   ·
    refine l_do F rfl rfl (op_pk F (v0 := .bool ((o.kind : Int) == (1 : Int))) (v := .bool true) (eqlT ht39) fun a F => ?_)
    refine l_pk 2 (fun L => (88, bif al then pt bn 0 else .pointer none) :: (87, .bool true) :: L) F fun a F => ?_
    cases al with
    | false =>
     skip
     have S : Sat w z [rest w (· < w.heap.size), box b1 48 [pt g0 0, pt g1 0], box b2 54 [pt m0 0, pt m1 0], sdA g0 xx.s0, sdA g1 xx.s1, rsA m0 xx.s0, rsA m1 xx.s1, emp, emp, box b9 33 [.int .i64 o.kind, strV o.nm, strV o.vl, .int .u8 (o.wh : Nat), .int .i64 o.n, .int .i64 o.k0, .int .i64 o.k1, .int .i64 o.z0, .int .i64 o.z1]] := S
     refine l_pk 3 (fun L => (83, .bool false) :: (90, .bool false) :: (89, .bool false) :: L) F fun a F => ?_
     refine l_then ?_
     refine c_f F rfl ?_
     refine s_reg ?_
     refine l_pk 1 (fun L => (101, pt b9 0) :: L) F fun a F => ?_
     refine l_do F rfl rfl (op_ldk (some ⟨b9, 0, none⟩) 0 (.int .i64 o.kind) F rfl (cBox S 9 rfl (j := 0) rfl) (fun a F => ?_))
     refine l_do F rfl rfl (op_pk F (v0 := .bool ((o.kind : Int) == (2 : Int))) (v := .bool false) (eqlF (by omega)) fun a F => ?_)
     refine l_pk 5 (fun L => (100, .bool false) :: (107, .bool false) :: (106, undef) :: (105, undef) :: (104, .bool false) :: L) F fun a F => ?_
     refine l_then ?_
     refine c_f F rfl ?_
     refine s_reg ?_
     refine l_pk 1 (fun L => (114, pt b9 0) :: L) F fun a F => ?_
     refine l_do F rfl rfl (op_ldk (some ⟨b9, 0, none⟩) 0 (.int .i64 o.kind) F rfl (cBox S 9 rfl (j := 0) rfl) (fun a F => ?_))
     refine l_do F rfl rfl (op_pk F (v0 := .bool ((o.kind : Int) == (3 : Int))) (v := .bool false) (eqlF (by omega)) fun a F => ?_)
     refine l_pk 5 (fun L => (113, .bool false) :: (120, .bool false) :: (119, undef) :: (118, undef) :: (117, .bool false) :: L) F fun a F => ?_
     refine l_then ?_
     refine c_f F rfl ?_
     refine s_reg ?_
     refine l_pk 1 (fun L => (127, pt b9 0) :: L) F fun a F => ?_
     refine l_do F rfl rfl (op_ldk (some ⟨b9, 0, none⟩) 0 (.int .i64 o.kind) F rfl (cBox S 9 rfl (j := 0) rfl) (fun a F => ?_))
     refine l_do F rfl rfl (op_pk F (v0 := .bool ((o.kind : Int) == (4 : Int))) (v := .bool false) (eqlF (by omega)) fun a F => ?_)
     refine l_pk 1 (fun L => (126, .bool false) :: L) F fun a F => ?_
     refine l_then ?_
     refine c_f F rfl ?_
     refine s_reg ?_
     refine l_pk 1 (fun L => (141, pt b9 0) :: L) F fun a F => ?_
     refine l_do F rfl rfl (op_ldk (some ⟨b9, 0, none⟩) 0 (.int .i64 o.kind) F rfl (cBox S 9 rfl (j := 0) rfl) (fun a F => ?_))
     refine l_do F rfl rfl (op_pk F (v0 := .bool ((o.kind : Int) == (5 : Int))) (v := .bool false) (eqlF (by omega)) fun a F => ?_)
     refine l_pk 1 (fun L => (140, .bool false) :: L) F fun a F => ?_
     refine l_then ?_
     refine c_f F rfl ?_
     refine s_reg ?_
     refine l_pk 1 (fun L => (191, pt b9 0) :: L) F fun a F => ?_
     refine l_do F rfl rfl (op_ldk (some ⟨b9, 0, none⟩) 0 (.int .i64 o.kind) F rfl (cBox S 9 rfl (j := 0) rfl) (fun a F => ?_))
     refine l_do F rfl rfl (op_pk F (v0 := .bool ((o.kind : Int) == (6 : Int))) (v := .bool false) (eqlF (by omega)) fun a F => ?_)
     refine l_pk 1 (fun L => (190, .bool false) :: L) F fun a F => ?_
     refine l_then ?_
     refine c_f F rfl ?_
     refine wp_skip ?_
     refine inb_n ?_
     refine then_n ?_
     exact hcut33 _ _ ⟨(⟨xx.lb, xx.s0, xx.s1⟩ : Lg), false, bb, bn, (hi0.mono (by omega)), (hi1.mono (by omega)), nofun, F.subk, (S.pick [0, 1, 2, 3, 4, 5, 6, 7, 8] (by decide))⟩
    | true =>
     skip
     have S : Sat w z [rest w (· < w.heap.size), box b1 48 [pt g0 0, pt g1 0], box b2 54 [pt m0 0, pt m1 0], sdA g0 xx.s0, sdA g1 xx.s1, rsA m0 xx.s0, rsA m1 xx.s1, lgA bb g0 g1 xx.lb, rlA bn m0 m1 xx.lb, box b9 33 [.int .i64 o.kind, strV o.nm, strV o.vl, .int .u8 (o.wh : Nat), .int .i64 o.n, .int .i64 o.k0, .int .i64 o.k1, .int .i64 o.z0, .int .i64 o.z1]] := S
     have hlb := hlb rfl
     have hlb9 := hlb.up (m := 900000) (by omega)
     have hct := hlb.ct
     refine l_pk 3 (fun L => (83, .bool true) :: (90, .bool true) :: (89, .bool true) :: L) F fun a F => ?_
     refine l_then ?_
     refine c_t F rfl ?_
     refine region_gx (fun D => fun (_ : Unit) => [rest w (· < w.heap.size), box b1 48 [pt g0 0, pt g1 0], box b2 54 [pt m0 0, pt m1 0], bif D 3 then sdA g0 (dropT xx o.nm).2.s0 else sdA g0 xx.s0, bif D 3 then sdA g1 (dropT xx o.nm).2.s1 else sdA g1 xx.s1, bif D 7 then rsA m0 (dropT xx o.nm).2.s0 else rsA m0 xx.s0, bif D 7 then rsA m1 (dropT xx o.nm).2.s1 else rsA m1 xx.s1, bif D 3 then lgA bb g0 g1 (dropT xx o.nm).2.lb else lgA bb g0 g1 xx.lb, bif D 7 then rlA bn m0 m1 (dropT xx o.nm).2.lb else rlA bn m0 m1 xx.lb, box b9 33 [.int .i64 o.kind, strV o.nm, strV o.vl, .int .u8 (o.wh : Nat), .int .i64 o.n, .int .i64 o.k0, .int .i64 o.k1, .int .i64 o.z0, .int .i64 o.z1]]) (fun (_ : Unit) => [pt bb 0, pt b9 1, strV o.nm, .int .i64 ((dropT xx o.nm).1), pt bn 0, pt b9 1, strV o.nm, .int .i64 ((dropT xx o.nm).1), .bool true, .bool true]) [(2, [], [3, 7, 8]), (3, [2], [7, 8]), (6, [], [7, 8]), (7, [2, 3, 6], [8]), (8, [2, 3, 6, 7], [])] () rfl (by kernel_rfl) (by kernel_rfl) F S.drew ?_ ?_ ?_ ?_ ?_
     · rintro ⟨⟩; rfl
     · rintro ⟨⟩; kernel_rfl
     ·
      intro D D' x h
      cases x
      simp only [h 3 (by decide), h 7 (by decide)]
     ·
      refine ⟨?_, ?_⟩
      ·
       refine ⟨_, rfl, rfl, by kernel_rfl, ?_⟩
       rintro D ⟨⟩ a z S F
       refine ⟨by kernel_rfl, ?_⟩
       exact op_ldk (some ⟨b9, 0, none⟩) 1 (strV o.nm) F rfl (cBox S 9 rfl (j := 1) rfl) (⟨(), rfl, (SameB.refl _ _ rfl), S⟩)
      refine ⟨?_, ?_⟩
      ·
       refine ⟨_, rfl, rfl, by kernel_rfl, ?_⟩
       rintro D ⟨⟩ a z S F
       refine ⟨by kernel_rfl, ?_⟩
       have S : Sat w z [rest w (· < w.heap.size), box b1 48 [pt g0 0, pt g1 0], box b2 54 [pt m0 0, pt m1 0], sdA g0 xx.s0, sdA g1 xx.s1, rsA m0 xx.s0, rsA m1 xx.s1, lgA bb g0 g1 xx.lb, rlA bn m0 m1 xx.lb, box b9 33 [.int .i64 o.kind, strV o.nm, strV o.vl, .int .u8 (o.wh : Nat), .int .i64 o.n, .int .i64 o.k0, .int .i64 o.k1, .int .i64 o.z0, .int .i64 o.z1]] := S
       obtain ⟨G9, g9, hin9, hlt9, k9⟩ := S.frameB [7, 3, 4] (by decide) rfl
       refine op_fn F (by kernel_rfl) (ldrop_any (x := xx) (4 * (ii : Int) + 3) hi0 hi1 (by omega) hlb.on o.nm (by omega) g9) ?_
       rintro e z9 ⟨rfl, g⟩
       have S : Sat w z9 [rest w (· < w.heap.size), box b1 48 [pt g0 0, pt g1 0], box b2 54 [pt m0 0, pt m1 0], sdA g0 (dropT xx o.nm).2.s0, sdA g1 (dropT xx o.nm).2.s1, rsA m0 xx.s0, rsA m1 xx.s1, lgA bb g0 g1 (dropT xx o.nm).2.lb, rlA bn m0 m1 xx.lb, box b9 33 [.int .i64 o.kind, strV o.nm, strV o.vl, .int .u8 (o.wh : Nat), .int .i64 o.n, .int .i64 o.k0, .int .i64 o.k1, .int .i64 o.z0, .int .i64 o.z1]] := k9 z9 [lgA bb g0 g1 (dropT xx o.nm).2.lb, sdA g0 (dropT xx o.nm).2.s0, sdA g1 (dropT xx o.nm).2.s1] rfl g
       clear g g9 k9 hin9 hlt9
       exact ⟨_, rfl, (), rfl, (SameB.refl _ _ rfl), S⟩
      refine ⟨?_, ?_⟩
      ·
       refine ⟨_, rfl, rfl, by kernel_rfl, ?_⟩
       rintro D ⟨⟩ a z S F
       refine ⟨by kernel_rfl, ?_⟩
       exact op_ldk (some ⟨b9, 0, none⟩) 1 (strV o.nm) F rfl (cBox S 9 rfl (j := 1) rfl) (⟨(), rfl, (SameB.refl _ _ rfl), S⟩)
      refine ⟨?_, ?_⟩
      ·
       refine ⟨_, rfl, rfl, by kernel_rfl, ?_⟩
       rintro D ⟨⟩ a z S F
       refine ⟨by kernel_rfl, ?_⟩
       have S : Sat w z [rest w (· < w.heap.size), box b1 48 [pt g0 0, pt g1 0], box b2 54 [pt m0 0, pt m1 0], sdA g0 (dropT xx o.nm).2.s0, sdA g1 (dropT xx o.nm).2.s1, rsA m0 xx.s0, rsA m1 xx.s1, lgA bb g0 g1 (dropT xx o.nm).2.lb, rlA bn m0 m1 xx.lb, box b9 33 [.int .i64 o.kind, strV o.nm, strV o.vl, .int .u8 (o.wh : Nat), .int .i64 o.n, .int .i64 o.k0, .int .i64 o.k1, .int .i64 o.z0, .int .i64 o.z1]] := S
       obtain ⟨G9, g9, hin9, hlt9, k9⟩ := S.frameB [8, 5, 6] (by decide) rfl
       refine op_fn F (by kernel_rfl) (rdrop_at (x := xx) (4 * (ii : Int) + 3) hi0 hi1 (by omega) hlb9 o.nm (by omega) g9) ?_
       rintro e z9 ⟨rfl, g⟩
       have S : Sat w z9 [rest w (· < w.heap.size), box b1 48 [pt g0 0, pt g1 0], box b2 54 [pt m0 0, pt m1 0], sdA g0 (dropT xx o.nm).2.s0, sdA g1 (dropT xx o.nm).2.s1, rsA m0 (dropT xx o.nm).2.s0, rsA m1 (dropT xx o.nm).2.s1, lgA bb g0 g1 (dropT xx o.nm).2.lb, rlA bn m0 m1 (dropT xx o.nm).2.lb, box b9 33 [.int .i64 o.kind, strV o.nm, strV o.vl, .int .u8 (o.wh : Nat), .int .i64 o.n, .int .i64 o.k0, .int .i64 o.k1, .int .i64 o.z0, .int .i64 o.z1]] := k9 z9 [rlA bn m0 m1 (dropT xx o.nm).2.lb, rsA m0 (dropT xx o.nm).2.s0, rsA m1 (dropT xx o.nm).2.s1] rfl g
       clear g g9 k9 hin9 hlt9
       exact ⟨_, rfl, (), rfl, (SameB.refl _ _ rfl), S⟩
      refine ⟨?_, ?_⟩
      ·
       refine ⟨_, rfl, rfl, by kernel_rfl, ?_⟩
       rintro D ⟨⟩ a z S F
       refine ⟨by kernel_rfl, ?_⟩
       exact op_pk F (v0 := .bool (((dropT xx o.nm).1 : Int) == ((dropT xx o.nm).1 : Int))) (v := .bool true) (eqlT rfl) ⟨(), rfl, (SameB.refl _ _ rfl), S⟩
      trivial
     rintro ⟨⟩ a z F S
     have F := F.subk (l := [(3, pt b1 0), (4, pt b2 0), (5, pt bb 0), (7, pt bn 0), (12, .bool true), (43, .slice Ao O.length co), (44, .int .i64 (O.length : Nat)), (45, .int .i64 (ii : Nat))])
     have S : Sat w z [rest w (· < w.heap.size), box b1 48 [pt g0 0, pt g1 0], box b2 54 [pt m0 0, pt m1 0], sdA g0 (dropT xx o.nm).2.s0, sdA g1 (dropT xx o.nm).2.s1, rsA m0 (dropT xx o.nm).2.s0, rsA m1 (dropT xx o.nm).2.s1, lgA bb g0 g1 (dropT xx o.nm).2.lb, rlA bn m0 m1 (dropT xx o.nm).2.lb, box b9 33 [.int .i64 o.kind, strV o.nm, strV o.vl, .int .u8 (o.wh : Nat), .int .i64 o.n, .int .i64 o.k0, .int .i64 o.k1, .int .i64 o.z0, .int .i64 o.z1]] := S
     refine inb_n ?_
     refine then_n ?_
     exact hcut33 _ _ ⟨(dropT xx o.nm).2, true, bb, bn, ((drop_in hi0 hi1 o.nm).1.mono (by omega)), ((drop_in hi0 hi1 o.nm).2.mono (by omega)), (fun _ => ((drop_lb hlb o.nm).up (by omega))), F.subk, (S.pick [0, 1, 2, 3, 4, 5, 6, 7, 8] (by decide))⟩
   refine l_do F rfl rfl (op_pk F (v0 := .bool ((o.kind : Int) == (1 : Int))) (v := .bool false) (eqlF ht39) fun a F => ?_)
   refine l_pk 5 (fun L => (83, .bool false) :: (90, .bool false) :: (89, undef) :: (88, undef) :: (87, .bool false) :: L) F fun a F => ?_
   refine l_then ?_
   refine c_f F rfl ?_
   refine s_reg ?_
   refine l_pk 1 (fun L => (101, pt b9 0) :: L) F fun a F => ?_
   refine l_do F rfl rfl (op_ldk (some ⟨b9, 0, none⟩) 0 (.int .i64 o.kind) F rfl (cBox S 9 rfl (j := 0) rfl) (fun a F => ?_))
   by_cases ht40 : (o.kind : Int) = (2 : Int)
   ·
    refine l_do F rfl rfl (op_pk F (v0 := .bool ((o.kind : Int) == (2 : Int))) (v := .bool true) (eqlT ht40) fun a F => ?_)
    refine l_pk 2 (fun L => (105, bif al then pt bn 0 else .pointer none) :: (104, .bool true) :: L) F fun a F => ?_
    cases al with
    | false =>
     skip
     have S : Sat w z [rest w (· < w.heap.size), box b1 48 [pt g0 0, pt g1 0], box b2 54 [pt m0 0, pt m1 0], sdA g0 xx.s0, sdA g1 xx.s1, rsA m0 xx.s0, rsA m1 xx.s1, emp, emp, box b9 33 [.int .i64 o.kind, strV o.nm, strV o.vl, .int .u8 (o.wh : Nat), .int .i64 o.n, .int .i64 o.k0, .int .i64 o.k1, .int .i64 o.z0, .int .i64 o.z1]] := S
     refine l_pk 3 (fun L => (100, .bool false) :: (107, .bool false) :: (106, .bool false) :: L) F fun a F => ?_
     refine l_then ?_
     refine c_f F rfl ?_
     refine s_reg ?_
     refine l_pk 1 (fun L => (114, pt b9 0) :: L) F fun a F => ?_
     refine l_do F rfl rfl (op_ldk (some ⟨b9, 0, none⟩) 0 (.int .i64 o.kind) F rfl (cBox S 9 rfl (j := 0) rfl) (fun a F => ?_))
     refine l_do F rfl rfl (op_pk F (v0 := .bool ((o.kind : Int) == (3 : Int))) (v := .bool false) (eqlF (by omega)) fun a F => ?_)
     refine l_pk 5 (fun L => (113, .bool false) :: (120, .bool false) :: (119, undef) :: (118, undef) :: (117, .bool false) :: L) F fun a F => ?_
     refine l_then ?_
     refine c_f F rfl ?_
     refine s_reg ?_
     refine l_pk 1 (fun L => (127, pt b9 0) :: L) F fun a F => ?_
     refine l_do F rfl rfl (op_ldk (some ⟨b9, 0, none⟩) 0 (.int .i64 o.kind) F rfl (cBox S 9 rfl (j := 0) rfl) (fun a F => ?_))
     refine l_do F rfl rfl (op_pk F (v0 := .bool ((o.kind : Int) == (4 : Int))) (v := .bool false) (eqlF (by omega)) fun a F => ?_)
     refine l_pk 1 (fun L => (126, .bool false) :: L) F fun a F => ?_
     refine l_then ?_
     refine c_f F rfl ?_
     refine s_reg ?_
     refine l_pk 1 (fun L => (141, pt b9 0) :: L) F fun a F => ?_
     refine l_do F rfl rfl (op_ldk (some ⟨b9, 0, none⟩) 0 (.int .i64 o.kind) F rfl (cBox S 9 rfl (j := 0) rfl) (fun a F => ?_))
     refine l_do F rfl rfl (op_pk F (v0 := .bool ((o.kind : Int) == (5 : Int))) (v := .bool false) (eqlF (by omega)) fun a F => ?_)
     refine l_pk 1 (fun L => (140, .bool false) :: L) F fun a F => ?_
     refine l_then ?_
     refine c_f F rfl ?_
     refine s_reg ?_
     refine l_pk 1 (fun L => (191, pt b9 0) :: L) F fun a F => ?_
     refine l_do F rfl rfl (op_ldk (some ⟨b9, 0, none⟩) 0 (.int .i64 o.kind) F rfl (cBox S 9 rfl (j := 0) rfl) (fun a F => ?_))
     refine l_do F rfl rfl (op_pk F (v0 := .bool ((o.kind : Int) == (6 : Int))) (v := .bool false) (eqlF (by omega)) fun a F => ?_)
     refine l_pk 1 (fun L => (190, .bool false) :: L) F fun a F => ?_
     refine l_then ?_
     refine c_f F rfl ?_
     refine wp_skip ?_
     refine inb_n ?_
     refine then_n ?_
     exact hcut33 _ _ ⟨(⟨xx.lb, xx.s0, xx.s1⟩ : Lg), false, bb, bn, (hi0.mono (by omega)), (hi1.mono (by omega)), nofun, F.subk, (S.pick [0, 1, 2, 3, 4, 5, 6, 7, 8] (by decide))⟩
    | true =>
     skip
     have S : Sat w z [rest w (· < w.heap.size), box b1 48 [pt g0 0, pt g1 0], box b2 54 [pt m0 0, pt m1 0], sdA g0 xx.s0, sdA g1 xx.s1, rsA m0 xx.s0, rsA m1 xx.s1, lgA bb g0 g1 xx.lb, rlA bn m0 m1 xx.lb, box b9 33 [.int .i64 o.kind, strV o.nm, strV o.vl, .int .u8 (o.wh : Nat), .int .i64 o.n, .int .i64 o.k0, .int .i64 o.k1, .int .i64 o.z0, .int .i64 o.z1]] := S
     have hlb := hlb rfl
     have hlb9 := hlb.up (m := 900000) (by omega)
     have hct := hlb.ct
     refine l_pk 3 (fun L => (100, .bool true) :: (107, .bool true) :: (106, .bool true) :: L) F fun a F => ?_
     refine l_then ?_
     refine c_t F rfl ?_
     refine wp_region_list ?_
     refine l_pk 1 (fun L => (108, pt bb 0) :: L) F fun a F => ?_
     obtain ⟨G9, g9, hin9, hlt9, k9⟩ := S.frameB [7, 3, 4] (by decide) rfl
     refine l_do F rfl rfl (op_fn F (by kernel_rfl) (lsync_any (x := xx) (4 * (ii : Int) + 3) hi0 hi1 (by omega) hlb.on g9) ?_)
     rintro e z9 ⟨rfl, g⟩
     have S : Sat w z9 [rest w (· < w.heap.size), box b1 48 [pt g0 0, pt g1 0], box b2 54 [pt m0 0, pt m1 0], sdA g0 (syncT xx).2.s0, sdA g1 (syncT xx).2.s1, rsA m0 xx.s0, rsA m1 xx.s1, lgA bb g0 g1 (syncT xx).2.lb, rlA bn m0 m1 xx.lb, box b9 33 [.int .i64 o.kind, strV o.nm, strV o.vl, .int .u8 (o.wh : Nat), .int .i64 o.n, .int .i64 o.k0, .int .i64 o.k1, .int .i64 o.z0, .int .i64 o.z1]] := k9 z9 [lgA bb g0 g1 (syncT xx).2.lb, sdA g0 (syncT xx).2.s0, sdA g1 (syncT xx).2.s1] rfl g
     clear g g9 k9 hin9 hlt9
     refine ⟨_, rfl, ?_⟩
     intro a F
     refine l_pk 1 (fun L => (110, pt bn 0) :: L) F fun a F => ?_
     obtain ⟨G9, g9, hin9, hlt9, k9⟩ := S.frameB [8, 5, 6] (by decide) rfl
     refine l_do F rfl rfl (op_fn F (by kernel_rfl) (rsync_lg (x := xx) (4 * (ii : Int) + 3) hi0 hi1 (by omega) hlb9 g9) ?_)
     rintro e z9 ⟨rfl, g⟩
     have S : Sat w z9 [rest w (· < w.heap.size), box b1 48 [pt g0 0, pt g1 0], box b2 54 [pt m0 0, pt m1 0], sdA g0 (syncT xx).2.s0, sdA g1 (syncT xx).2.s1, rsA m0 (syncT xx).2.s0, rsA m1 (syncT xx).2.s1, lgA bb g0 g1 (syncT xx).2.lb, rlA bn m0 m1 (syncT xx).2.lb, box b9 33 [.int .i64 o.kind, strV o.nm, strV o.vl, .int .u8 (o.wh : Nat), .int .i64 o.n, .int .i64 o.k0, .int .i64 o.k1, .int .i64 o.z0, .int .i64 o.z1]] := k9 z9 [rlA bn m0 m1 (syncT xx).2.lb, rsA m0 (syncT xx).2.s0, rsA m1 (syncT xx).2.s1] rfl g
     clear g g9 k9 hin9 hlt9
     refine ⟨_, rfl, ?_⟩
     intro a F
     refine l_do F rfl rfl (op_pk F (v0 := .bool (((syncT xx).1 : Int) == ((syncT xx).1 : Int))) (v := .bool true) (eqlT rfl) fun a F => ?_)
     refine l_pk 1 (fun L => (12, .bool true) :: L) F fun a F => ?_
     refine l_nil (inb_n ?_)
     refine then_n ?_
     exact hcut33 _ _ ⟨(syncT xx).2, true, bb, bn, ((sync_in hi0 hi1).1.mono (by omega)), ((sync_in hi0 hi1).2.mono (by omega)), (fun _ => ((sync_lb hlb).up (by omega))), F.subk, (S.pick [0, 1, 2, 3, 4, 5, 6, 7, 8] (by decide))⟩
   refine l_do F rfl rfl (op_pk F (v0 := .bool ((o.kind : Int) == (2 : Int))) (v := .bool false) (eqlF ht40) fun a F => ?_)
   refine l_pk 5 (fun L => (100, .bool false) :: (107, .bool false) :: (106, undef) :: (105, undef) :: (104, .bool false) :: L) F fun a F => ?_
   refine l_then ?_
   refine c_f F rfl ?_
   refine s_reg ?_
   refine l_pk 1 (fun L => (114, pt b9 0) :: L) F fun a F => ?_
   refine l_do F rfl rfl (op_ldk (some ⟨b9, 0, none⟩) 0 (.int .i64 o.kind) F rfl (cBox S 9 rfl (j := 0) rfl) (fun a F => ?_))
   by_cases ht41 : (o.kind : Int) = (3 : Int)
   ·
    refine l_do F rfl rfl (op_pk F (v0 := .bool ((o.kind : Int) == (3 : Int))) (v := .bool true) (eqlT ht41) fun a F => ?_)
    refine l_pk 2 (fun L => (118, bif al then pt bn 0 else .pointer none) :: (117, .bool true) :: L) F fun a F => ?_
    cases al with
    | false =>
     skip
     have S : Sat w z [rest w (· < w.heap.size), box b1 48 [pt g0 0, pt g1 0], box b2 54 [pt m0 0, pt m1 0], sdA g0 xx.s0, sdA g1 xx.s1, rsA m0 xx.s0, rsA m1 xx.s1, emp, emp, box b9 33 [.int .i64 o.kind, strV o.nm, strV o.vl, .int .u8 (o.wh : Nat), .int .i64 o.n, .int .i64 o.k0, .int .i64 o.k1, .int .i64 o.z0, .int .i64 o.z1]] := S
     refine l_pk 3 (fun L => (113, .bool false) :: (120, .bool false) :: (119, .bool false) :: L) F fun a F => ?_
     refine l_then ?_
     refine c_f F rfl ?_
     refine s_reg ?_
     refine l_pk 1 (fun L => (127, pt b9 0) :: L) F fun a F => ?_
     refine l_do F rfl rfl (op_ldk (some ⟨b9, 0, none⟩) 0 (.int .i64 o.kind) F rfl (cBox S 9 rfl (j := 0) rfl) (fun a F => ?_))
     refine l_do F rfl rfl (op_pk F (v0 := .bool ((o.kind : Int) == (4 : Int))) (v := .bool false) (eqlF (by omega)) fun a F => ?_)
     refine l_pk 1 (fun L => (126, .bool false) :: L) F fun a F => ?_
     refine l_then ?_
     refine c_f F rfl ?_
     refine s_reg ?_
     refine l_pk 1 (fun L => (141, pt b9 0) :: L) F fun a F => ?_
     refine l_do F rfl rfl (op_ldk (some ⟨b9, 0, none⟩) 0 (.int .i64 o.kind) F rfl (cBox S 9 rfl (j := 0) rfl) (fun a F => ?_))
     refine l_do F rfl rfl (op_pk F (v0 := .bool ((o.kind : Int) == (5 : Int))) (v := .bool false) (eqlF (by omega)) fun a F => ?_)
     refine l_pk 1 (fun L => (140, .bool false) :: L) F fun a F => ?_
     refine l_then ?_
     refine c_f F rfl ?_
     refine s_reg ?_
     refine l_pk 1 (fun L => (191, pt b9 0) :: L) F fun a F => ?_
     refine l_do F rfl rfl (op_ldk (some ⟨b9, 0, none⟩) 0 (.int .i64 o.kind) F rfl (cBox S 9 rfl (j := 0) rfl) (fun a F => ?_))
     refine l_do F rfl rfl (op_pk F (v0 := .bool ((o.kind : Int) == (6 : Int))) (v := .bool false) (eqlF (by omega)) fun a F => ?_)
     refine l_pk 1 (fun L => (190, .bool false) :: L) F fun a F => ?_
     refine l_then ?_
     refine c_f F rfl ?_
     refine wp_skip ?_
     refine inb_n ?_
     refine then_n ?_
     exact hcut33 _ _ ⟨(⟨xx.lb, xx.s0, xx.s1⟩ : Lg), false, bb, bn, (hi0.mono (by omega)), (hi1.mono (by omega)), nofun, F.subk, (S.pick [0, 1, 2, 3, 4, 5, 6, 7, 8] (by decide))⟩
    | true =>
     skip
     have S : Sat w z [rest w (· < w.heap.size), box b1 48 [pt g0 0, pt g1 0], box b2 54 [pt m0 0, pt m1 0], sdA g0 xx.s0, sdA g1 xx.s1, rsA m0 xx.s0, rsA m1 xx.s1, lgA bb g0 g1 xx.lb, rlA bn m0 m1 xx.lb, box b9 33 [.int .i64 o.kind, strV o.nm, strV o.vl, .int .u8 (o.wh : Nat), .int .i64 o.n, .int .i64 o.k0, .int .i64 o.k1, .int .i64 o.z0, .int .i64 o.z1]] := S
     have hlb := hlb rfl
     have hlb9 := hlb.up (m := 900000) (by omega)
     have hct := hlb.ct
     refine l_pk 3 (fun L => (113, .bool true) :: (120, .bool true) :: (119, .bool true) :: L) F fun a F => ?_
     refine l_then ?_
     refine c_t F rfl ?_
     refine wp_region_list ?_
     refine l_pk 1 (fun L => (121, pt bb 0) :: L) F fun a F => ?_
     obtain ⟨G9, g9, hin9, hlt9, k9⟩ := S.frameB [7, 3, 4] (by decide) rfl
     refine l_do F rfl rfl (op_fn F (by kernel_rfl) (lcomp_any (x := xx) (4 * (ii : Int) + 3) hi0 hi1 (by omega) hlb9 g9) ?_)
     rintro e z9 ⟨rfl, g⟩
     have S : Sat w z9 [rest w (· < w.heap.size), box b1 48 [pt g0 0, pt g1 0], box b2 54 [pt m0 0, pt m1 0], sdA g0 (compT xx).2.s0, sdA g1 (compT xx).2.s1, rsA m0 xx.s0, rsA m1 xx.s1, lgA bb g0 g1 (compT xx).2.lb, rlA bn m0 m1 xx.lb, box b9 33 [.int .i64 o.kind, strV o.nm, strV o.vl, .int .u8 (o.wh : Nat), .int .i64 o.n, .int .i64 o.k0, .int .i64 o.k1, .int .i64 o.z0, .int .i64 o.z1]] := k9 z9 [lgA bb g0 g1 (compT xx).2.lb, sdA g0 (compT xx).2.s0, sdA g1 (compT xx).2.s1] rfl g
     clear g g9 k9 hin9 hlt9
     refine ⟨_, rfl, ?_⟩
     intro a F
     refine l_pk 1 (fun L => (123, pt bn 0) :: L) F fun a F => ?_
     obtain ⟨G9, g9, hin9, hlt9, k9⟩ := S.frameB [8, 5, 6] (by decide) rfl
     refine l_do F rfl rfl (op_fn F (by kernel_rfl) (rcomp_any (x := xx) (4 * (ii : Int) + 3) hi0 hi1 (by omega) hlb9 g9) ?_)
     rintro e z9 ⟨rfl, g⟩
     have S : Sat w z9 [rest w (· < w.heap.size), box b1 48 [pt g0 0, pt g1 0], box b2 54 [pt m0 0, pt m1 0], sdA g0 (compT xx).2.s0, sdA g1 (compT xx).2.s1, rsA m0 (compT xx).2.s0, rsA m1 (compT xx).2.s1, lgA bb g0 g1 (compT xx).2.lb, rlA bn m0 m1 (compT xx).2.lb, box b9 33 [.int .i64 o.kind, strV o.nm, strV o.vl, .int .u8 (o.wh : Nat), .int .i64 o.n, .int .i64 o.k0, .int .i64 o.k1, .int .i64 o.z0, .int .i64 o.z1]] := k9 z9 [rlA bn m0 m1 (compT xx).2.lb, rsA m0 (compT xx).2.s0, rsA m1 (compT xx).2.s1] rfl g
     clear g g9 k9 hin9 hlt9
     refine ⟨_, rfl, ?_⟩
     intro a F
     refine l_do F rfl rfl (op_pk F (v0 := .bool (((compT xx).1 : Int) == ((compT xx).1 : Int))) (v := .bool true) (eqlT rfl) fun a F => ?_)
     refine l_pk 1 (fun L => (12, .bool true) :: L) F fun a F => ?_
     refine l_nil (inb_n ?_)
     refine then_n ?_
     exact hcut33 _ _ ⟨(compT xx).2, true, bb, bn, ((comp_in hi0 hi1).1.mono (by omega)), ((comp_in hi0 hi1).2.mono (by omega)), (fun _ => ((comp_lb hlb).up (by omega))), F.subk, (S.pick [0, 1, 2, 3, 4, 5, 6, 7, 8] (by decide))⟩
   refine l_do F rfl rfl (op_pk F (v0 := .bool ((o.kind : Int) == (3 : Int))) (v := .bool false) (eqlF ht41) fun a F => ?_)
   refine l_pk 5 (fun L => (113, .bool false) :: (120, .bool false) :: (119, undef) :: (118, undef) :: (117, .bool false) :: L) F fun a F => ?_
   refine l_then ?_
   refine c_f F rfl ?_
   refine s_reg ?_
   refine l_pk 1 (fun L => (127, pt b9 0) :: L) F fun a F => ?_
   refine l_do F rfl rfl (op_ldk (some ⟨b9, 0, none⟩) 0 (.int .i64 o.kind) F rfl (cBox S 9 rfl (j := 0) rfl) (fun a F => ?_))
   by_cases ht42 : (o.kind : Int) = (4 : Int)
   ·
    refine l_do F rfl rfl (op_pk F (v0 := .bool ((o.kind : Int) == (4 : Int))) (v := .bool true) (eqlT ht42) fun a F => ?_)
    refine l_pk 1 (fun L => (126, .bool true) :: L) F fun a F => ?_
    refine l_then ?_
    refine c_t F rfl ?_
    refine region_gx (fun D => fun (_ : Unit) => [rest w (· < w.heap.size), box b1 48 [pt g0 0, pt g1 0], box b2 54 [pt m0 0, pt m1 0], sdA g0 xx.s0, bif D 9 then sdA g1 (xx.s1.fus o.n) else sdA g1 xx.s1, rsA m0 xx.s0, bif D 9 then rsA m1 (xx.s1.fus o.n) else rsA m1 xx.s1, bif al then lgA bb g0 g1 xx.lb else emp, bif al then rlA bn m0 m1 xx.lb else emp, box b9 33 [.int .i64 o.kind, strV o.nm, strV o.vl, .int .u8 (o.wh : Nat), .int .i64 o.n, .int .i64 o.k0, .int .i64 o.k1, .int .i64 o.z0, .int .i64 o.z1]]) (fun (_ : Unit) => [.int .i64 1, pt b1 1, pt g1 0, .int .i64 1, pt b2 1, pt m1 0, pt b9 4, .int .i64 o.n, .agg #[.int .i64 3, .int .i64 o.n, .int .i64 0, .slice none 0 0], .bool true]) [(2, [], [9]), (5, [], [9]), (7, [], [9]), (9, [2, 5, 7], [])] () rfl (by kernel_rfl) (by kernel_rfl) F S.drew ?_ ?_ ?_ ?_ ?_
    · rintro ⟨⟩; rfl
    · rintro ⟨⟩; kernel_rfl
    ·
     intro D D' x h
     cases x
     simp only [h 9 (by decide)]
    ·
     refine ⟨?_, ?_⟩
     ·
      refine ⟨_, rfl, rfl, by kernel_rfl, ?_⟩
      rintro D ⟨⟩ a z S F
      refine ⟨by kernel_rfl, ?_⟩
      exact op_ldk (some ⟨b1, 0, none⟩) 1 (pt g1 0) F rfl (cBox S 1 rfl (j := 1) rfl) (⟨(), rfl, (SameB.refl _ _ rfl), S⟩)
     refine ⟨?_, ?_⟩
     ·
      refine ⟨_, rfl, rfl, by kernel_rfl, ?_⟩
      rintro D ⟨⟩ a z S F
      refine ⟨by kernel_rfl, ?_⟩
      exact op_ldk (some ⟨b2, 0, none⟩) 1 (pt m1 0) F rfl (cBox S 2 rfl (j := 1) rfl) (⟨(), rfl, (SameB.refl _ _ rfl), S⟩)
     refine ⟨?_, ?_⟩
     ·
      refine ⟨_, rfl, rfl, by kernel_rfl, ?_⟩
      rintro D ⟨⟩ a z S F
      refine ⟨by kernel_rfl, ?_⟩
      exact op_ldk (some ⟨b9, 0, none⟩) 4 (.int .i64 o.n) F rfl (cBox S 9 rfl (j := 4) rfl) (⟨(), rfl, (SameB.refl _ _ rfl), S⟩)
     refine ⟨?_, ?_⟩
     ·
      refine ⟨_, rfl, rfl, by kernel_rfl, ?_⟩
      rintro D ⟨⟩ a z S F
      refine ⟨by kernel_rfl, ?_⟩
      have S : Sat w z [rest w (· < w.heap.size), box b1 48 [pt g0 0, pt g1 0], box b2 54 [pt m0 0, pt m1 0], sdA g0 xx.s0, sdA g1 xx.s1, rsA m0 xx.s0, rsA m1 xx.s1, bif al then lgA bb g0 g1 xx.lb else emp, bif al then rlA bn m0 m1 xx.lb else emp, box b9 33 [.int .i64 o.kind, strV o.nm, strV o.vl, .int .u8 (o.wh : Nat), .int .i64 o.n, .int .i64 o.k0, .int .i64 o.k1, .int .i64 o.z0, .int .i64 o.z1]] := S
      obtain ⟨G9, g9, hin9, hlt9, k9⟩ := S.frameB [4, 6] (by decide) rfl
      refine op_fn F (by kernel_rfl) (does_fus hi1 (by omega) o.n hok.n.1 hok.n.2 g9) ?_
      rintro e z9 ⟨rfl, g⟩
      have S : Sat w z9 [rest w (· < w.heap.size), box b1 48 [pt g0 0, pt g1 0], box b2 54 [pt m0 0, pt m1 0], sdA g0 xx.s0, sdA g1 (xx.s1.fus o.n), rsA m0 xx.s0, rsA m1 (xx.s1.fus o.n), bif al then lgA bb g0 g1 xx.lb else emp, bif al then rlA bn m0 m1 xx.lb else emp, box b9 33 [.int .i64 o.kind, strV o.nm, strV o.vl, .int .u8 (o.wh : Nat), .int .i64 o.n, .int .i64 o.k0, .int .i64 o.k1, .int .i64 o.z0, .int .i64 o.z1]] := k9 z9 [sdA g1 (xx.s1.fus o.n), rsA m1 (xx.s1.fus o.n)] rfl g
      clear g g9 k9 hin9 hlt9
      exact ⟨_, rfl, (), rfl, (SameB.refl _ _ rfl), S⟩
     trivial
    rintro ⟨⟩ a z F S
    have F := F.subk (l := [(3, pt b1 0), (4, pt b2 0), (5, bif al then pt bb 0 else .pointer none), (7, bif al then pt bn 0 else .pointer none), (12, .bool true), (43, .slice Ao O.length co), (44, .int .i64 (O.length : Nat)), (45, .int .i64 (ii : Nat))])
    have S : Sat w z [rest w (· < w.heap.size), box b1 48 [pt g0 0, pt g1 0], box b2 54 [pt m0 0, pt m1 0], sdA g0 xx.s0, sdA g1 (xx.s1.fus o.n), rsA m0 xx.s0, rsA m1 (xx.s1.fus o.n), bif al then lgA bb g0 g1 xx.lb else emp, bif al then rlA bn m0 m1 xx.lb else emp, box b9 33 [.int .i64 o.kind, strV o.nm, strV o.vl, .int .u8 (o.wh : Nat), .int .i64 o.n, .int .i64 o.k0, .int .i64 o.k1, .int .i64 o.z0, .int .i64 o.z1]] := S
    refine inb_n ?_
    refine then_n ?_
    exact hcut33 _ _ ⟨(⟨xx.lb, xx.s0, (xx.s1.fus o.n)⟩ : Lg), al, bb, bn, (hi0.mono (by omega)), ((hi1.fus hok.n.2).mono (by omega)), (fun h9 => (hlb h9).up (by omega)), F.subk, (S.pick [0, 1, 2, 3, 4, 5, 6, 7, 8] (by decide))⟩
   refine l_do F rfl rfl (op_pk F (v0 := .bool ((o.kind : Int) == (4 : Int))) (v := .bool false) (eqlF ht42) fun a F => ?_)
   refine l_pk 1 (fun L => (126, .bool false) :: L) F fun a F => ?_
   refine l_then ?_
   refine c_f F rfl ?_
   refine s_reg ?_
   refine l_pk 1 (fun L => (141, pt b9 0) :: L) F fun a F => ?_
   refine l_do F rfl rfl (op_ldk (some ⟨b9, 0, none⟩) 0 (.int .i64 o.kind) F rfl (cBox S 9 rfl (j := 0) rfl) (fun a F => ?_))
   by_cases ht43 : (o.kind : Int) = (5 : Int)
   ·
    refine l_do F rfl rfl (op_pk F (v0 := .bool ((o.kind : Int) == (5 : Int))) (v := .bool true) (eqlT ht43) fun a F => ?_)
    refine l_pk 1 (fun L => (140, .bool true) :: L) F fun a F => ?_
    refine l_then ?_
    refine c_t F rfl ?_
    refine wp_seq ?_
    refine s_reg ?_
    refine l_pk 1 (fun L => (144, .int .i64 0) :: L) F fun a F => ?_
    refine l_then ?_
    refine wp_block ?_
    refine wp_loop_rounds 3 (rnd ?_)
    refine s_reg ?_
    refine l_pk 1 (fun L => (145, .bool true) :: L) F fun a F => ?_
    refine l_then ?_
    refine wp_seq ?_
    refine c_t F rfl ?_
    refine wp_skip ?_
    refine then_n ?_
    refine wp_seq ?_
    refine wp_block ?_
    refine s_reg ?_
    refine l_pk 2 (fun L => (13, .int .i64 0) :: (146, .int .i64 0) :: L) F fun a F => ?_
    refine l_then ?_
    refine region_gx (fun D => fun (_ : Unit) => [rest w (· < w.heap.size), box b1 48 [pt g0 0, pt g1 0], box b2 54 [pt m0 0, pt m1 0], bif D 15 then sdA g0 (xx.s0.crs o.k0 o.z0) else sdA g0 xx.s0, sdA g1 xx.s1, bif D 15 then rsA m0 (xx.s0.crs o.k0 o.z0) else rsA m0 xx.s0, rsA m1 xx.s1, bif al then lgA bb g0 g1 xx.lb else emp, bif al then rlA bn m0 m1 xx.lb else emp, box b9 33 [.int .i64 o.kind, strV o.nm, strV o.vl, .int .u8 (o.wh : Nat), .int .i64 o.n, .int .i64 o.k0, .int .i64 o.k1, .int .i64 o.z0, .int .i64 o.z1]]) (fun (_ : Unit) => [.int .i64 0, pt b1 0, pt g0 0, .int .i64 0, pt b2 0, pt m0 0, .int .i64 0, pt b9 5, pt b9 5, .int .i64 o.k0, .int .i64 0, pt b9 7, pt b9 7, .int .i64 o.z0, .agg #[.int .i64 4, .int .i64 o.k0, .int .i64 o.z0, .slice none 0 0], .bool true]) [(2, [], [15]), (5, [], [15]), (9, [], [15]), (13, [], [15]), (15, [2, 5, 9, 13], [])] () rfl (by kernel_rfl) (by kernel_rfl) F S.drew ?_ ?_ ?_ ?_ ?_
    · rintro ⟨⟩; rfl
    ·
     rintro ⟨⟩
     refine Eq.trans (b := [some (.int .i64 0), some (pt b1 0), none, some (.int .i64 0), some (pt b2 0), none, some (.int .i64 0), some (pt b9 5), some (pt b9 5), none, some (.int .i64 0), some (pt b9 7), some (pt b9 7), none, some (.agg #[.int .i64 4, .int .i64 o.k0, .int .i64 o.z0, .slice none 0 0]), none]) ?_ ?_ <;> kernel_rfl
    ·
     intro D D' x h
     cases x
     simp only [h 15 (by decide)]
    ·
     refine ⟨?_, ?_⟩
     ·
      refine ⟨_, rfl, rfl, by kernel_rfl, ?_⟩
      rintro D ⟨⟩ a z S F
      refine ⟨by kernel_rfl, ?_⟩
      exact op_ldk (some ⟨b1, 0, none⟩) 0 (pt g0 0) F rfl (cBox S 1 rfl (j := 0) rfl) (⟨(), rfl, (SameB.refl _ _ rfl), S⟩)
     refine ⟨?_, ?_⟩
     ·
      refine ⟨_, rfl, rfl, by kernel_rfl, ?_⟩
      rintro D ⟨⟩ a z S F
      refine ⟨by kernel_rfl, ?_⟩
      exact op_ldk (some ⟨b2, 0, none⟩) 0 (pt m0 0) F rfl (cBox S 2 rfl (j := 0) rfl) (⟨(), rfl, (SameB.refl _ _ rfl), S⟩)
     refine ⟨?_, ?_⟩
     ·
      refine ⟨_, rfl, rfl, by kernel_rfl, ?_⟩
      rintro D ⟨⟩ a z S F
      refine ⟨by kernel_rfl, ?_⟩
      exact op_ldk (some ⟨b9, 0, none⟩) 5 (.int .i64 o.k0) F rfl (cBox S 9 rfl (j := 5) rfl) (⟨(), rfl, (SameB.refl _ _ rfl), S⟩)
     refine ⟨?_, ?_⟩
     ·
      refine ⟨_, rfl, rfl, by kernel_rfl, ?_⟩
      rintro D ⟨⟩ a z S F
      refine ⟨by kernel_rfl, ?_⟩
      exact op_ldk (some ⟨b9, 0, none⟩) 7 (.int .i64 o.z0) F rfl (cBox S 9 rfl (j := 7) rfl) (⟨(), rfl, (SameB.refl _ _ rfl), S⟩)
     refine ⟨?_, ?_⟩
     ·
      refine ⟨_, rfl, rfl, by kernel_rfl, ?_⟩
      rintro D ⟨⟩ a z S F
      refine ⟨by kernel_rfl, ?_⟩
      have S : Sat w z [rest w (· < w.heap.size), box b1 48 [pt g0 0, pt g1 0], box b2 54 [pt m0 0, pt m1 0], sdA g0 xx.s0, sdA g1 xx.s1, rsA m0 xx.s0, rsA m1 xx.s1, bif al then lgA bb g0 g1 xx.lb else emp, bif al then rlA bn m0 m1 xx.lb else emp, box b9 33 [.int .i64 o.kind, strV o.nm, strV o.vl, .int .u8 (o.wh : Nat), .int .i64 o.n, .int .i64 o.k0, .int .i64 o.k1, .int .i64 o.z0, .int .i64 o.z1]] := S
      obtain ⟨G9, g9, hin9, hlt9, k9⟩ := S.frameB [3, 5] (by decide) rfl
      refine op_fn F (by kernel_rfl) (does_crs hi0 (by omega) o.k0 o.z0 hok.k0.1 hok.k0.2 g9) ?_
      rintro e z9 ⟨rfl, g⟩
      have S : Sat w z9 [rest w (· < w.heap.size), box b1 48 [pt g0 0, pt g1 0], box b2 54 [pt m0 0, pt m1 0], sdA g0 (xx.s0.crs o.k0 o.z0), sdA g1 xx.s1, rsA m0 (xx.s0.crs o.k0 o.z0), rsA m1 xx.s1, bif al then lgA bb g0 g1 xx.lb else emp, bif al then rlA bn m0 m1 xx.lb else emp, box b9 33 [.int .i64 o.kind, strV o.nm, strV o.vl, .int .u8 (o.wh : Nat), .int .i64 o.n, .int .i64 o.k0, .int .i64 o.k1, .int .i64 o.z0, .int .i64 o.z1]] := k9 z9 [sdA g0 (xx.s0.crs o.k0 o.z0), rsA m0 (xx.s0.crs o.k0 o.z0)] rfl g
      clear g g9 k9 hin9 hlt9
      exact ⟨_, rfl, (), rfl, (SameB.refl _ _ rfl), S⟩
     trivial
    rintro ⟨⟩ a z F S
    have F := F.subk (l := [(3, pt b1 0), (4, pt b2 0), (5, bif al then pt bb 0 else .pointer none), (7, bif al then pt bn 0 else .pointer none), (10, pt b9 0), (43, .slice Ao O.length co), (44, .int .i64 (O.length : Nat)), (45, .int .i64 (ii : Nat)), (144, .int .i64 0)])
    have S : Sat w z [rest w (· < w.heap.size), box b1 48 [pt g0 0, pt g1 0], box b2 54 [pt m0 0, pt m1 0], sdA g0 (xx.s0.crs o.k0 o.z0), sdA g1 xx.s1, rsA m0 (xx.s0.crs o.k0 o.z0), rsA m1 xx.s1, bif al then lgA bb g0 g1 xx.lb else emp, bif al then rlA bn m0 m1 xx.lb else emp, box b9 33 [.int .i64 o.kind, strV o.nm, strV o.vl, .int .u8 (o.wh : Nat), .int .i64 o.n, .int .i64 o.k0, .int .i64 o.k1, .int .i64 o.z0, .int .i64 o.z1]] := S
    refine inb_n ?_
    refine then_n ?_
    refine wp_region_list ?_
    refine l_pk 2 (fun L => (144, .int .i64 1) :: (163, .int .i64 1) :: L) F fun a F => ?_
    refine l_then ?_
    refine rnd ?_
    refine s_reg ?_
    refine l_pk 1 (fun L => (145, .bool true) :: L) F fun a F => ?_
    refine l_then ?_
    refine wp_seq ?_
    refine c_t F rfl ?_
    refine wp_skip ?_
    refine then_n ?_
    refine wp_seq ?_
    refine wp_block ?_
    refine s_reg ?_
    refine l_pk 2 (fun L => (13, .int .i64 1) :: (146, .int .i64 1) :: L) F fun a F => ?_
    refine l_then ?_
    refine region_gx (fun D => fun (_ : Unit) => [rest w (· < w.heap.size), box b1 48 [pt g0 0, pt g1 0], box b2 54 [pt m0 0, pt m1 0], sdA g0 (xx.s0.crs o.k0 o.z0), bif D 15 then sdA g1 (xx.s1.crs o.k1 o.z1) else sdA g1 xx.s1, rsA m0 (xx.s0.crs o.k0 o.z0), bif D 15 then rsA m1 (xx.s1.crs o.k1 o.z1) else rsA m1 xx.s1, bif al then lgA bb g0 g1 xx.lb else emp, bif al then rlA bn m0 m1 xx.lb else emp, box b9 33 [.int .i64 o.kind, strV o.nm, strV o.vl, .int .u8 (o.wh : Nat), .int .i64 o.n, .int .i64 o.k0, .int .i64 o.k1, .int .i64 o.z0, .int .i64 o.z1]]) (fun (_ : Unit) => [.int .i64 1, pt b1 1, pt g1 0, .int .i64 1, pt b2 1, pt m1 0, .int .i64 1, pt b9 5, pt b9 6, .int .i64 o.k1, .int .i64 1, pt b9 7, pt b9 8, .int .i64 o.z1, .agg #[.int .i64 4, .int .i64 o.k1, .int .i64 o.z1, .slice none 0 0], .bool true]) [(2, [], [15]), (5, [], [15]), (9, [], [15]), (13, [], [15]), (15, [2, 5, 9, 13], [])] () rfl (by kernel_rfl) (by kernel_rfl) F S.drew ?_ ?_ ?_ ?_ ?_
    · rintro ⟨⟩; rfl
    ·
     rintro ⟨⟩
     refine Eq.trans (b := [some (.int .i64 1), some (pt b1 1), none, some (.int .i64 1), some (pt b2 1), none, some (.int .i64 1), some (pt b9 5), some (pt b9 6), none, some (.int .i64 1), some (pt b9 7), some (pt b9 8), none, some (.agg #[.int .i64 4, .int .i64 o.k1, .int .i64 o.z1, .slice none 0 0]), none]) ?_ ?_ <;> kernel_rfl
    ·
     intro D D' x h
     cases x
     simp only [h 15 (by decide)]
    ·
     refine ⟨?_, ?_⟩
     ·
      refine ⟨_, rfl, rfl, by kernel_rfl, ?_⟩
      rintro D ⟨⟩ a z S F
      refine ⟨by kernel_rfl, ?_⟩
      exact op_ldk (some ⟨b1, 0, none⟩) 1 (pt g1 0) F rfl (cBox S 1 rfl (j := 1) rfl) (⟨(), rfl, (SameB.refl _ _ rfl), S⟩)
     refine ⟨?_, ?_⟩
     ·
      refine ⟨_, rfl, rfl, by kernel_rfl, ?_⟩
      rintro D ⟨⟩ a z S F
      refine ⟨by kernel_rfl, ?_⟩
      exact op_ldk (some ⟨b2, 0, none⟩) 1 (pt m1 0) F rfl (cBox S 2 rfl (j := 1) rfl) (⟨(), rfl, (SameB.refl _ _ rfl), S⟩)
     refine ⟨?_, ?_⟩
     ·
      refine ⟨_, rfl, rfl, by kernel_rfl, ?_⟩
      rintro D ⟨⟩ a z S F
      refine ⟨by kernel_rfl, ?_⟩
      exact op_ldk (some ⟨b9, 0, none⟩) 6 (.int .i64 o.k1) F rfl (cBox S 9 rfl (j := 6) rfl) (⟨(), rfl, (SameB.refl _ _ rfl), S⟩)
     refine ⟨?_, ?_⟩
     ·
      refine ⟨_, rfl, rfl, by kernel_rfl, ?_⟩
      rintro D ⟨⟩ a z S F
      refine ⟨by kernel_rfl, ?_⟩
      exact op_ldk (some ⟨b9, 0, none⟩) 8 (.int .i64 o.z1) F rfl (cBox S 9 rfl (j := 8) rfl) (⟨(), rfl, (SameB.refl _ _ rfl), S⟩)
     refine ⟨?_, ?_⟩
     ·
      refine ⟨_, rfl, rfl, by kernel_rfl, ?_⟩
      rintro D ⟨⟩ a z S F
      refine ⟨by kernel_rfl, ?_⟩
      have S : Sat w z [rest w (· < w.heap.size), box b1 48 [pt g0 0, pt g1 0], box b2 54 [pt m0 0, pt m1 0], sdA g0 (xx.s0.crs o.k0 o.z0), sdA g1 xx.s1, rsA m0 (xx.s0.crs o.k0 o.z0), rsA m1 xx.s1, bif al then lgA bb g0 g1 xx.lb else emp, bif al then rlA bn m0 m1 xx.lb else emp, box b9 33 [.int .i64 o.kind, strV o.nm, strV o.vl, .int .u8 (o.wh : Nat), .int .i64 o.n, .int .i64 o.k0, .int .i64 o.k1, .int .i64 o.z0, .int .i64 o.z1]] := S
      obtain ⟨G9, g9, hin9, hlt9, k9⟩ := S.frameB [4, 6] (by decide) rfl
      refine op_fn F (by kernel_rfl) (does_crs hi1 (by omega) o.k1 o.z1 hok.k1.1 hok.k1.2 g9) ?_
      rintro e z9 ⟨rfl, g⟩
      have S : Sat w z9 [rest w (· < w.heap.size), box b1 48 [pt g0 0, pt g1 0], box b2 54 [pt m0 0, pt m1 0], sdA g0 (xx.s0.crs o.k0 o.z0), sdA g1 (xx.s1.crs o.k1 o.z1), rsA m0 (xx.s0.crs o.k0 o.z0), rsA m1 (xx.s1.crs o.k1 o.z1), bif al then lgA bb g0 g1 xx.lb else emp, bif al then rlA bn m0 m1 xx.lb else emp, box b9 33 [.int .i64 o.kind, strV o.nm, strV o.vl, .int .u8 (o.wh : Nat), .int .i64 o.n, .int .i64 o.k0, .int .i64 o.k1, .int .i64 o.z0, .int .i64 o.z1]] := k9 z9 [sdA g1 (xx.s1.crs o.k1 o.z1), rsA m1 (xx.s1.crs o.k1 o.z1)] rfl g
      clear g g9 k9 hin9 hlt9
      exact ⟨_, rfl, (), rfl, (SameB.refl _ _ rfl), S⟩
     trivial
    rintro ⟨⟩ a z F S
    have F := F.subk (l := [(3, pt b1 0), (4, pt b2 0), (5, bif al then pt bb 0 else .pointer none), (7, bif al then pt bn 0 else .pointer none), (10, pt b9 0), (43, .slice Ao O.length co), (44, .int .i64 (O.length : Nat)), (45, .int .i64 (ii : Nat)), (144, .int .i64 1)])
    have S : Sat w z [rest w (· < w.heap.size), box b1 48 [pt g0 0, pt g1 0], box b2 54 [pt m0 0, pt m1 0], sdA g0 (xx.s0.crs o.k0 o.z0), sdA g1 (xx.s1.crs o.k1 o.z1), rsA m0 (xx.s0.crs o.k0 o.z0), rsA m1 (xx.s1.crs o.k1 o.z1), bif al then lgA bb g0 g1 xx.lb else emp, bif al then rlA bn m0 m1 xx.lb else emp, box b9 33 [.int .i64 o.kind, strV o.nm, strV o.vl, .int .u8 (o.wh : Nat), .int .i64 o.n, .int .i64 o.k0, .int .i64 o.k1, .int .i64 o.z0, .int .i64 o.z1]] := S
    refine inb_n ?_
    refine then_n ?_
    refine wp_region_list ?_
    refine l_pk 2 (fun L => (144, .int .i64 2) :: (163, .int .i64 2) :: L) F fun a F => ?_
    refine l_then ?_
    refine rnd ?_
    refine s_reg ?_
    refine l_pk 1 (fun L => (145, .bool false) :: L) F fun a F => ?_
    refine l_then ?_
    refine wp_seq ?_
    refine c_f F rfl ?_
    refine wp_exit ?_
    refine then_x ?_
    refine then_x ?_
    refine inb_x ?_
    refine then_n ?_
    refine s_reg ?_
    refine l_pk 1 (fun L => (165, pt b1 0) :: L) F fun a F => ?_
    refine l_do F rfl rfl (op_ldk (some ⟨b1, 0, none⟩) 0 (pt g0 0) F rfl (cBox S 1 rfl (j := 0) rfl) (fun a F => ?_))
    refine l_pk 1 (fun L => (167, pt b1 1) :: L) F fun a F => ?_
    refine l_do F rfl rfl (op_ldk (some ⟨b1, 0, none⟩) 1 (pt g1 0) F rfl (cBox S 1 rfl (j := 1) rfl) (fun a F => ?_))
    by_cases ht44 : ((openT (xx.s0.crs o.k0 o.z0) (xx.s1.crs o.k1 o.z1)).1 : Int) = (0 : Int)
    ·
     obtain ⟨G9, g9, hin9, hlt9, k9⟩ := S.frameB [3, 4] (by decide) rfl
     refine l_do F rfl rfl (op_fn F (by kernel_rfl) (lopen_ok (4 * (ii : Int) + 3) (hi0.crs _ _) (hi1.crs _ _) (by omega) rfl rfl ht44 g9) ?_)
     rintro e z9 ⟨bl2, rfl, g⟩
     have S : Sat w z9 [rest w (· < w.heap.size), box b1 48 [pt g0 0, pt g1 0], box b2 54 [pt m0 0, pt m1 0], star2 (sdA g0 (openT (xx.s0.crs o.k0 o.z0) (xx.s1.crs o.k1 o.z1)).2.s0) (lgA bl2 g0 g1 (openT (xx.s0.crs o.k0 o.z0) (xx.s1.crs o.k1 o.z1)).2.lb), sdA g1 (openT (xx.s0.crs o.k0 o.z0) (xx.s1.crs o.k1 o.z1)).2.s1, rsA m0 (xx.s0.crs o.k0 o.z0), rsA m1 (xx.s1.crs o.k1 o.z1), bif al then lgA bb g0 g1 xx.lb else emp, bif al then rlA bn m0 m1 xx.lb else emp, box b9 33 [.int .i64 o.kind, strV o.nm, strV o.vl, .int .u8 (o.wh : Nat), .int .i64 o.n, .int .i64 o.k0, .int .i64 o.k1, .int .i64 o.z0, .int .i64 o.z1]] := k9 z9 [star2 (sdA g0 (openT (xx.s0.crs o.k0 o.z0) (xx.s1.crs o.k1 o.z1)).2.s0) (lgA bl2 g0 g1 (openT (xx.s0.crs o.k0 o.z0) (xx.s1.crs o.k1 o.z1)).2.lb), sdA g1 (openT (xx.s0.crs o.k0 o.z0) (xx.s1.crs o.k1 o.z1)).2.s1] rfl g
     clear g g9 k9 hin9 hlt9
     have S := S.open2 (i := 3) rfl
     have S : Sat w z9 [rest w (· < w.heap.size), box b1 48 [pt g0 0, pt g1 0], box b2 54 [pt m0 0, pt m1 0], sdA g0 (openT (xx.s0.crs o.k0 o.z0) (xx.s1.crs o.k1 o.z1)).2.s0, sdA g1 (openT (xx.s0.crs o.k0 o.z0) (xx.s1.crs o.k1 o.z1)).2.s1, rsA m0 (xx.s0.crs o.k0 o.z0), rsA m1 (xx.s1.crs o.k1 o.z1), bif al then lgA bb g0 g1 xx.lb else emp, bif al then rlA bn m0 m1 xx.lb else emp, box b9 33 [.int .i64 o.kind, strV o.nm, strV o.vl, .int .u8 (o.wh : Nat), .int .i64 o.n, .int .i64 o.k0, .int .i64 o.k1, .int .i64 o.z0, .int .i64 o.z1], lgA bl2 g0 g1 (openT (xx.s0.crs o.k0 o.z0) (xx.s1.crs o.k1 o.z1)).2.lb] := S
     refine ⟨_, rfl, ?_⟩
     intro a F
     refine l_pk 5 (fun L => (6, .int .i64 0) :: (5, pt bl2 0) :: (171, .int .i64 0) :: (170, pt bl2 0) :: (164, .tuple #[pt bl2 0, .int .i64 0]) :: L) F fun a F => ?_
     refine l_then ?_
     refine s_reg ?_
     refine l_pk 1 (fun L => (173, pt b2 0) :: L) F fun a F => ?_
     refine l_do F rfl rfl (op_ldk (some ⟨b2, 0, none⟩) 0 (pt m0 0) F rfl (cBox S 2 rfl (j := 0) rfl) (fun a F => ?_))
     refine l_pk 1 (fun L => (175, pt b2 1) :: L) F fun a F => ?_
     refine l_do F rfl rfl (op_ldk (some ⟨b2, 0, none⟩) 1 (pt m1 0) F rfl (cBox S 2 rfl (j := 1) rfl) (fun a F => ?_))
     obtain ⟨G9, g9, hin9, hlt9, k9⟩ := S.frameB [5, 6] (by decide) rfl
     refine l_do F rfl rfl (op_fn F (by kernel_rfl) (ropen_ok (4 * (ii : Int) + 3) (hi0.crs _ _) (hi1.crs _ _) (by omega) rfl rfl ht44 g9) ?_)
     rintro e z9 ⟨bm2, rfl, g⟩
     have S : Sat w z9 [rest w (· < w.heap.size), box b1 48 [pt g0 0, pt g1 0], box b2 54 [pt m0 0, pt m1 0], sdA g0 (openT (xx.s0.crs o.k0 o.z0) (xx.s1.crs o.k1 o.z1)).2.s0, sdA g1 (openT (xx.s0.crs o.k0 o.z0) (xx.s1.crs o.k1 o.z1)).2.s1, star2 (rsA m0 (openT (xx.s0.crs o.k0 o.z0) (xx.s1.crs o.k1 o.z1)).2.s0) (rlA bm2 m0 m1 (openT (xx.s0.crs o.k0 o.z0) (xx.s1.crs o.k1 o.z1)).2.lb), rsA m1 (openT (xx.s0.crs o.k0 o.z0) (xx.s1.crs o.k1 o.z1)).2.s1, bif al then lgA bb g0 g1 xx.lb else emp, bif al then rlA bn m0 m1 xx.lb else emp, box b9 33 [.int .i64 o.kind, strV o.nm, strV o.vl, .int .u8 (o.wh : Nat), .int .i64 o.n, .int .i64 o.k0, .int .i64 o.k1, .int .i64 o.z0, .int .i64 o.z1], lgA bl2 g0 g1 (openT (xx.s0.crs o.k0 o.z0) (xx.s1.crs o.k1 o.z1)).2.lb] := k9 z9 [star2 (rsA m0 (openT (xx.s0.crs o.k0 o.z0) (xx.s1.crs o.k1 o.z1)).2.s0) (rlA bm2 m0 m1 (openT (xx.s0.crs o.k0 o.z0) (xx.s1.crs o.k1 o.z1)).2.lb), rsA m1 (openT (xx.s0.crs o.k0 o.z0) (xx.s1.crs o.k1 o.z1)).2.s1] rfl g
     clear g g9 k9 hin9 hlt9
     have S := S.open2 (i := 5) rfl
     have S : Sat w z9 [rest w (· < w.heap.size), box b1 48 [pt g0 0, pt g1 0], box b2 54 [pt m0 0, pt m1 0], sdA g0 (openT (xx.s0.crs o.k0 o.z0) (xx.s1.crs o.k1 o.z1)).2.s0, sdA g1 (openT (xx.s0.crs o.k0 o.z0) (xx.s1.crs o.k1 o.z1)).2.s1, rsA m0 (openT (xx.s0.crs o.k0 o.z0) (xx.s1.crs o.k1 o.z1)).2.s0, rsA m1 (openT (xx.s0.crs o.k0 o.z0) (xx.s1.crs o.k1 o.z1)).2.s1, bif al then lgA bb g0 g1 xx.lb else emp, bif al then rlA bn m0 m1 xx.lb else emp, box b9 33 [.int .i64 o.kind, strV o.nm, strV o.vl, .int .u8 (o.wh : Nat), .int .i64 o.n, .int .i64 o.k0, .int .i64 o.k1, .int .i64 o.z0, .int .i64 o.z1], lgA bl2 g0 g1 (openT (xx.s0.crs o.k0 o.z0) (xx.s1.crs o.k1 o.z1)).2.lb, rlA bm2 m0 m1 (openT (xx.s0.crs o.k0 o.z0) (xx.s1.crs o.k1 o.z1)).2.lb] := S
     refine ⟨_, rfl, ?_⟩
     intro a F
     refine l_pk 5 (fun L => (8, .int .i64 0) :: (7, pt bm2 0) :: (179, .int .i64 0) :: (178, pt bm2 0) :: (172, .tuple #[pt bm2 0, .int .i64 0]) :: L) F fun a F => ?_
     refine l_then ?_
     refine wp_region_list ?_
     refine l_pk 11 (fun L => (12, .bool true) :: (189, .bool true) :: (188, .bool true) :: (187, .bool false) :: (186, pt bm2 0) :: (185, .bool false) :: (184, pt bl2 0) :: (183, .bool true) :: (182, .bool true) :: (181, .int .i64 0) :: (180, .int .i64 0) :: L) F fun a F => ?_
     refine l_nil (inb_n ?_)
     refine then_n ?_
     exact hcut33 _ _ ⟨(openT (xx.s0.crs o.k0 o.z0) (xx.s1.crs o.k1 o.z1)).2, true, bl2, bm2, ((open_in (hi0.crs o.k0 o.z0) (hi1.crs o.k1 o.z1)).1.mono (by omega)), ((open_in (hi0.crs o.k0 o.z0) (hi1.crs o.k1 o.z1)).2.mono (by omega)), (fun _ => (open_lb (hi0.crs o.k0 o.z0) (hi1.crs o.k1 o.z1)).up (by omega)), F.subk, (S.pick [0, 1, 2, 3, 4, 5, 6, 10, 11] (by decide))⟩
    obtain ⟨G9, g9, hin9, hlt9, k9⟩ := S.frameB [3, 4] (by decide) rfl
    refine l_do F rfl rfl (op_fn F (by kernel_rfl) (lopen_er (4 * (ii : Int) + 3) (hi0.crs _ _) (hi1.crs _ _) (by omega) rfl rfl ht44 g9) ?_)
    rintro e z9 ⟨rfl, g⟩
    have S : Sat w z9 [rest w (· < w.heap.size), box b1 48 [pt g0 0, pt g1 0], box b2 54 [pt m0 0, pt m1 0], sdA g0 (openT (xx.s0.crs o.k0 o.z0) (xx.s1.crs o.k1 o.z1)).2.s0, sdA g1 (openT (xx.s0.crs o.k0 o.z0) (xx.s1.crs o.k1 o.z1)).2.s1, rsA m0 (xx.s0.crs o.k0 o.z0), rsA m1 (xx.s1.crs o.k1 o.z1), bif al then lgA bb g0 g1 xx.lb else emp, bif al then rlA bn m0 m1 xx.lb else emp, box b9 33 [.int .i64 o.kind, strV o.nm, strV o.vl, .int .u8 (o.wh : Nat), .int .i64 o.n, .int .i64 o.k0, .int .i64 o.k1, .int .i64 o.z0, .int .i64 o.z1]] := k9 z9 [sdA g0 (openT (xx.s0.crs o.k0 o.z0) (xx.s1.crs o.k1 o.z1)).2.s0, sdA g1 (openT (xx.s0.crs o.k0 o.z0) (xx.s1.crs o.k1 o.z1)).2.s1] rfl g
    clear g g9 k9 hin9 hlt9
    refine ⟨_, rfl, ?_⟩
    intro a F
    refine l_pk 5 (fun L => (6, .int .i64 ((openT (xx.s0.crs o.k0 o.z0) (xx.s1.crs o.k1 o.z1)).1)) :: (5, .pointer none) :: (171, .int .i64 ((openT (xx.s0.crs o.k0 o.z0) (xx.s1.crs o.k1 o.z1)).1)) :: (170, .pointer none) :: (164, .tuple #[.pointer none, .int .i64 ((openT (xx.s0.crs o.k0 o.z0) (xx.s1.crs o.k1 o.z1)).1)]) :: L) F fun a F => ?_
    refine l_then ?_
    refine s_reg ?_
    refine l_pk 1 (fun L => (173, pt b2 0) :: L) F fun a F => ?_
    refine l_do F rfl rfl (op_ldk (some ⟨b2, 0, none⟩) 0 (pt m0 0) F rfl (cBox S 2 rfl (j := 0) rfl) (fun a F => ?_))
    refine l_pk 1 (fun L => (175, pt b2 1) :: L) F fun a F => ?_
    refine l_do F rfl rfl (op_ldk (some ⟨b2, 0, none⟩) 1 (pt m1 0) F rfl (cBox S 2 rfl (j := 1) rfl) (fun a F => ?_))
    obtain ⟨G9, g9, hin9, hlt9, k9⟩ := S.frameB [5, 6] (by decide) rfl
    refine l_do F rfl rfl (op_fn F (by kernel_rfl) (ropen_er (4 * (ii : Int) + 3) (hi0.crs _ _) (hi1.crs _ _) (by omega) rfl rfl ht44 g9) ?_)
    rintro e z9 ⟨rfl, g⟩
    have S : Sat w z9 [rest w (· < w.heap.size), box b1 48 [pt g0 0, pt g1 0], box b2 54 [pt m0 0, pt m1 0], sdA g0 (openT (xx.s0.crs o.k0 o.z0) (xx.s1.crs o.k1 o.z1)).2.s0, sdA g1 (openT (xx.s0.crs o.k0 o.z0) (xx.s1.crs o.k1 o.z1)).2.s1, rsA m0 (openT (xx.s0.crs o.k0 o.z0) (xx.s1.crs o.k1 o.z1)).2.s0, rsA m1 (openT (xx.s0.crs o.k0 o.z0) (xx.s1.crs o.k1 o.z1)).2.s1, bif al then lgA bb g0 g1 xx.lb else emp, bif al then rlA bn m0 m1 xx.lb else emp, box b9 33 [.int .i64 o.kind, strV o.nm, strV o.vl, .int .u8 (o.wh : Nat), .int .i64 o.n, .int .i64 o.k0, .int .i64 o.k1, .int .i64 o.z0, .int .i64 o.z1]] := k9 z9 [rsA m0 (openT (xx.s0.crs o.k0 o.z0) (xx.s1.crs o.k1 o.z1)).2.s0, rsA m1 (openT (xx.s0.crs o.k0 o.z0) (xx.s1.crs o.k1 o.z1)).2.s1] rfl g
    clear g g9 k9 hin9 hlt9
    refine ⟨_, rfl, ?_⟩
    intro a F
    refine l_pk 5 (fun L => (8, .int .i64 ((openT (xx.s0.crs o.k0 o.z0) (xx.s1.crs o.k1 o.z1)).1)) :: (7, .pointer none) :: (179, .int .i64 ((openT (xx.s0.crs o.k0 o.z0) (xx.s1.crs o.k1 o.z1)).1)) :: (178, .pointer none) :: (172, .tuple #[.pointer none, .int .i64 ((openT (xx.s0.crs o.k0 o.z0) (xx.s1.crs o.k1 o.z1)).1)]) :: L) F fun a F => ?_
    refine l_then ?_
    refine wp_region_list ?_
    refine l_pk 2 (fun L => (181, .int .i64 ((openT (xx.s0.crs o.k0 o.z0) (xx.s1.crs o.k1 o.z1)).1)) :: (180, .int .i64 ((openT (xx.s0.crs o.k0 o.z0) (xx.s1.crs o.k1 o.z1)).1)) :: L) F fun a F => ?_
    refine l_do F rfl rfl (op_pk F (v0 := .bool (((openT (xx.s0.crs o.k0 o.z0) (xx.s1.crs o.k1 o.z1)).1 : Int) == ((openT (xx.s0.crs o.k0 o.z0) (xx.s1.crs o.k1 o.z1)).1 : Int))) (v := .bool true) (eqlT rfl) fun a F => ?_)
    refine l_pk 8 (fun L => (12, .bool true) :: (189, .bool true) :: (188, .bool true) :: (187, .bool true) :: (186, .pointer none) :: (185, .bool true) :: (184, .pointer none) :: (183, .bool true) :: L) F fun a F => ?_
    refine l_nil (inb_n ?_)
    refine then_n ?_
    have S := S.pushEmp.pushEmp
    exact hcut33 _ _ ⟨(openT (xx.s0.crs o.k0 o.z0) (xx.s1.crs o.k1 o.z1)).2, false, bb, bn, ((open_in (hi0.crs o.k0 o.z0) (hi1.crs o.k1 o.z1)).1.mono (by omega)), ((open_in (hi0.crs o.k0 o.z0) (hi1.crs o.k1 o.z1)).2.mono (by omega)), nofun, F.subk, (S.pick [0, 1, 2, 3, 4, 5, 6, 10, 11] (by decide))⟩
   refine l_do F rfl rfl (op_pk F (v0 := .bool ((o.kind : Int) == (5 : Int))) (v := .bool false) (eqlF ht43) fun a F => ?_)
   refine l_pk 1 (fun L => (140, .bool false) :: L) F fun a F => ?_
   refine l_then ?_
   refine c_f F rfl ?_
   refine s_reg ?_
   refine l_pk 1 (fun L => (191, pt b9 0) :: L) F fun a F => ?_
   refine l_do F rfl rfl (op_ldk (some ⟨b9, 0, none⟩) 0 (.int .i64 o.kind) F rfl (cBox S 9 rfl (j := 0) rfl) (fun a F => ?_))
   by_cases ht45 : (o.kind : Int) = (6 : Int)
   ·
    refine l_do F rfl rfl (op_pk F (v0 := .bool ((o.kind : Int) == (6 : Int))) (v := .bool true) (eqlT ht45) fun a F => ?_)
    refine l_pk 1 (fun L => (190, .bool true) :: L) F fun a F => ?_
    refine l_then ?_
    refine c_t F rfl ?_
    have S := S.pushEmp
    refine region_gx (fun D => fun ((b46, c47) : Nat × Nat) => [rest w (· < w.heap.size), box b1 48 [pt g0 0, pt g1 0], box b2 54 [pt m0 0, pt m1 0], sdA g0 xx.s0, bif D 10 then sdA g1 (xx.s1.app o.vl) else sdA g1 xx.s1, rsA m0 xx.s0, bif D 10 then rsA m1 (xx.s1.app o.vl) else rsA m1 xx.s1, bif al then lgA bb g0 g1 xx.lb else emp, bif al then rlA bn m0 m1 xx.lb else emp, box b9 33 [.int .i64 o.kind, strV o.nm, strV o.vl, .int .u8 (o.wh : Nat), .int .i64 o.n, .int .i64 o.k0, .int .i64 o.k1, .int .i64 o.z0, .int .i64 o.z1], bif D 8 then sbA b46 5 o.vl c47 else emp]) (fun ((b46, c47) : Nat × Nat) => [.int .i64 1, pt b1 1, pt g1 0, .int .i64 1, pt b2 1, pt m1 0, pt b9 2, strV o.vl, .slice (some ⟨b46, 0, none⟩) o.vl.length c47, .agg #[.int .i64 0, .int .i64 0, .int .i64 0, .slice (some ⟨b46, 0, none⟩) o.vl.length c47], .bool true]) [(2, [], [10]), (5, [], [10]), (7, [], [8, 10]), (8, [7], [10]), (10, [2, 5, 7, 8], [])] (0, 0) rfl (by kernel_rfl) (by kernel_rfl) F S.drew ?_ ?_ ?_ ?_ ?_
    · rintro ⟨b46, c47⟩; rfl
    · rintro ⟨b46, c47⟩; kernel_rfl
    ·
     intro D D' x h
     obtain ⟨b46, c47⟩ := x
     simp only [h 8 (by decide), h 10 (by decide)]
    ·
     refine ⟨?_, ?_⟩
     ·
      refine ⟨_, rfl, rfl, by kernel_rfl, ?_⟩
      rintro D ⟨b46, c47⟩ a z S F
      refine ⟨by kernel_rfl, ?_⟩
      exact op_ldk (some ⟨b1, 0, none⟩) 1 (pt g1 0) F rfl (cBox S 1 rfl (j := 1) rfl) (⟨(b46, c47), rfl, (SameB.refl _ _ rfl), S⟩)
     refine ⟨?_, ?_⟩
     ·
      refine ⟨_, rfl, rfl, by kernel_rfl, ?_⟩
      rintro D ⟨b46, c47⟩ a z S F
      refine ⟨by kernel_rfl, ?_⟩
      exact op_ldk (some ⟨b2, 0, none⟩) 1 (pt m1 0) F rfl (cBox S 2 rfl (j := 1) rfl) (⟨(b46, c47), rfl, (SameB.refl _ _ rfl), S⟩)
     refine ⟨?_, ?_⟩
     ·
      refine ⟨_, rfl, rfl, by kernel_rfl, ?_⟩
      rintro D ⟨b46, c47⟩ a z S F
      refine ⟨by kernel_rfl, ?_⟩
      exact op_ldk (some ⟨b9, 0, none⟩) 2 (strV o.vl) F rfl (cBox S 9 rfl (j := 2) rfl) (⟨(b46, c47), rfl, (SameB.refl _ _ rfl), S⟩)
     refine ⟨?_, ?_⟩
     ·
      refine ⟨_, rfl, rfl, by kernel_rfl, ?_⟩
      rintro D ⟨b46, c47⟩ a z S F
      refine ⟨by kernel_rfl, ?_⟩
      exact op_bytesF S 10 rfl _ _ 5 _ o.vl F rfl (by kernel_rfl) (by kernel_rfl) (by kernel_rfl) (by kernel_rfl) fun y48 y49 z S => ⟨(y48, y49), rfl, ⟨rfl, rfl, rfl, rfl, rfl, rfl, rfl, rfl, trivial, trivial, trivial, trivial⟩, S⟩
     refine ⟨?_, ?_⟩
     ·
      refine ⟨_, rfl, rfl, by kernel_rfl, ?_⟩
      rintro D ⟨b46, c47⟩ a z S F
      refine ⟨by kernel_rfl, ?_⟩
      have S : Sat w z [rest w (· < w.heap.size), box b1 48 [pt g0 0, pt g1 0], box b2 54 [pt m0 0, pt m1 0], sdA g0 xx.s0, sdA g1 xx.s1, rsA m0 xx.s0, rsA m1 xx.s1, bif al then lgA bb g0 g1 xx.lb else emp, bif al then rlA bn m0 m1 xx.lb else emp, box b9 33 [.int .i64 o.kind, strV o.nm, strV o.vl, .int .u8 (o.wh : Nat), .int .i64 o.n, .int .i64 o.k0, .int .i64 o.k1, .int .i64 o.z0, .int .i64 o.z1], sbA b46 5 o.vl c47] := S
      obtain ⟨G9, g9, hin9, hlt9, k9⟩ := S.frameB [4, 6] (by decide) rfl
      refine op_fn F (by kernel_rfl) (does_app hi1 (by omega) o.vl _ c47 (S.sbOf (i := 10) rfl (by omega)) (InG.sb S hin9 10 (by decide) rfl) g9) ?_
      rintro e z9 ⟨rfl, g⟩
      have S : Sat w z9 [rest w (· < w.heap.size), box b1 48 [pt g0 0, pt g1 0], box b2 54 [pt m0 0, pt m1 0], sdA g0 xx.s0, sdA g1 (xx.s1.app o.vl), rsA m0 xx.s0, rsA m1 (xx.s1.app o.vl), bif al then lgA bb g0 g1 xx.lb else emp, bif al then rlA bn m0 m1 xx.lb else emp, box b9 33 [.int .i64 o.kind, strV o.nm, strV o.vl, .int .u8 (o.wh : Nat), .int .i64 o.n, .int .i64 o.k0, .int .i64 o.k1, .int .i64 o.z0, .int .i64 o.z1], sbA b46 5 o.vl c47] := k9 z9 [sdA g1 (xx.s1.app o.vl), rsA m1 (xx.s1.app o.vl)] rfl g
      clear g g9 k9 hin9 hlt9
      exact ⟨_, rfl, (b46, c47), rfl, (SameB.refl _ _ rfl), S⟩
     trivial
    rintro ⟨b46, c47⟩ a z F S
    have F := F.subk (l := [(3, pt b1 0), (4, pt b2 0), (5, bif al then pt bb 0 else .pointer none), (7, bif al then pt bn 0 else .pointer none), (12, .bool true), (43, .slice Ao O.length co), (44, .int .i64 (O.length : Nat)), (45, .int .i64 (ii : Nat))])
    have S : Sat w z [rest w (· < w.heap.size), box b1 48 [pt g0 0, pt g1 0], box b2 54 [pt m0 0, pt m1 0], sdA g0 xx.s0, sdA g1 (xx.s1.app o.vl), rsA m0 xx.s0, rsA m1 (xx.s1.app o.vl), bif al then lgA bb g0 g1 xx.lb else emp, bif al then rlA bn m0 m1 xx.lb else emp, box b9 33 [.int .i64 o.kind, strV o.nm, strV o.vl, .int .u8 (o.wh : Nat), .int .i64 o.n, .int .i64 o.k0, .int .i64 o.k1, .int .i64 o.z0, .int .i64 o.z1], sbA b46 5 o.vl c47] := S
    refine inb_n ?_
    refine then_n ?_
    exact hcut33 _ _ ⟨(⟨xx.lb, xx.s0, (xx.s1.app o.vl)⟩ : Lg), al, bb, bn, (hi0.mono (by omega)), ((hi1.app o.vl).mono (by omega)), (fun h9 => (hlb h9).up (by omega)), F.subk, (S.pick [0, 1, 2, 3, 4, 5, 6, 7, 8] (by decide))⟩
   refine l_do F rfl rfl (op_pk F (v0 := .bool ((o.kind : Int) == (6 : Int))) (v := .bool false) (eqlF ht45) fun a F => ?_)
   refine l_pk 1 (fun L => (190, .bool false) :: L) F fun a F => ?_
   refine l_then ?_
   refine c_f F rfl ?_
   refine wp_skip ?_
   refine inb_n ?_
   refine then_n ?_
   exact hcut33 _ _ ⟨(⟨xx.lb, xx.s0, xx.s1⟩ : Lg), al, bb, bn, (hi0.mono (by omega)), (hi1.mono (by omega)), (fun h9 => (hlb h9).up (by omega)), F.subk, (S.pick [0, 1, 2, 3, 4, 5, 6, 7, 8] (by decide))⟩
 refine l_do F rfl rfl (op_pk F (v0 := .bool (decide (((ii : Nat) : Int) < ((O.length : Nat) : Int)))) (v := .bool false) (lssF ht8) fun a F => ?_)
 refine l_then ?_
 refine wp_seq ?_
 refine c_f F rfl ?_
 refine wp_exit ?_
 refine then_x ?_
 refine then_x ?_
 refine inb_x ?_
 refine then_n ?_
 refine s_reg ?_
 refine l_do F rfl rfl (op_fn F (by kernel_rfl) (awake17 _) ?_)
 rintro e z ⟨rfl, hb⟩
 have S := S.grow hb
 refine ⟨_, rfl, ?_⟩
 intro a F
 refine l_pk 1 (fun L => (2, .bool true) :: L) F fun a F => ?_
 refine l_then ?_
 refine wp_ret ?_
 exact fin F [.tmp 2] [.bool true] rfl ⟨by kernel_rfl, trivial⟩ (.bool true) rfl ⟨rfl, S.below (i := 0) rfl⟩
end Go.Proofs.Ytidcdfilfccigaa
