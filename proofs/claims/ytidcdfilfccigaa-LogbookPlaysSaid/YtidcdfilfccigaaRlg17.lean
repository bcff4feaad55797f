/- The document's logbook, as it lies in memory; its slabs. -/
import Derived.Test.YtidcdfilfccigaaDocB17
import Derived.Test.YtidcdfilfccigaaLgQ17
namespace Go.Proofs.Ytidcdfilfccigaa
set_option linter.unusedVariables false
set_option linter.unusedSimpArgs false
set_option linter.unnecessarySimpa false
open Go Go.RowKit

/-- The document's slab. -/
def rsA (m : Nat) (s : Sd) : Asn := refA m s.st
/-- The document's logbook. -/
def rlBox (b m0 m1 on life : Nat) (A : Option Addr) (n c : Nat) (dead : Int) : Asn := box b 91 [pt m0 0, pt m1 0, .int .i64 (on : Nat), .int .u32 (life : Nat), .slice A n c, .int .i64 dead]
def rlA (b m0 m1 : Nat) (lb : Lb) : Asn := told (fun _ : Option Addr × Nat => True) fun m => [rlBox b m0 m1 lb.on lb.life m.1 lb.L.length m.2 lb.dead, row 100 2 (.slice m.1 lb.L.length m.2) lb.L.length (lb.L.flatMap nvC)]
section
variable {w0 w w1 : World} {l : List Asn} {i m : Nat} {s : Sd} {n : Int} {G : Nat → Prop} {b m0 m1 : Nat}
theorem rl_open {s0 s1 : Sd} {lb : Lb} (h : Sat w0 w [rlA b m0 m1 lb, rsA m0 s0, rsA m1 s1, rest w1 G]) : ∃ A c, Sat w0 w [rest w1 G, rsA m0 s0, rsA m1 s1, rlBox b m0 m1 lb.on lb.life A lb.L.length c lb.dead, row 100 2 (.slice A lb.L.length c) lb.L.length (lb.L.flatMap nvC)] := by
  obtain ⟨⟨A, c⟩, _, h1⟩ := Sat.openTold [rest w1 G, rsA m0 s0, rsA m1 s1] (h.pick [3, 1, 2, 0] (by decide))
  exact ⟨A, c, h1⟩
theorem rl_shut {s0 s1 : Sd} {L : List NV} {on life c n1 n2 : Nat} {A : Option Addr} {dead : Int} (e1 : n1 = L.length) (e2 : n2 = L.length) (h : Sat w0 w [rest w1 G, rsA m0 s0, rsA m1 s1, rlBox b m0 m1 on life A n1 c dead, row 100 2 (.slice A n2 c) n2 (L.flatMap nvC)]) : Sat w0 w [rlA b m0 m1 ⟨on, life, L, dead⟩, rsA m0 s0, rsA m1 s1, rest w1 G] := by
  subst e1; subst e2
  have h1 := Sat.shutTold (p := fun _ : Option Addr × Nat => True) (f := fun m => [rlBox b m0 m1 on life m.1 L.length m.2 dead, row 100 2 (.slice m.1 L.length m.2) L.length (L.flatMap nvC)]) [rest w1 G, rsA m0 s0, rsA m1 s1] (A, c) trivial h
  exact h1.pick [3, 1, 2, 0] (by decide)
theorem rl_shutL {l : List Asn} {L : List NV} {on life c : Nat} {A : Option Addr} {dead : Int} (h : Sat w0 w (l ++ [rlBox b m0 m1 on life A L.length c dead, row 100 2 (.slice A L.length c) L.length (L.flatMap nvC)])) : Sat w0 w (l ++ [rlA b m0 m1 ⟨on, life, L, dead⟩]) :=
  Sat.shutTold (p := fun _ : Option Addr × Nat => True) (f := fun m => [rlBox b m0 m1 on life m.1 L.length m.2 dead, row 100 2 (.slice m.1 L.length m.2) L.length (L.flatMap nvC)]) l (A, c) trivial h
theorem rnew_at (h : Sat w0 w l) : Calls Try.prog 22 #[] w fun e w' => ∃ m, e = .returned (pt m 0) ∧ Sat w0 w' (l ++ [rsA m .new]) := by
  refine (rnew_sat h).mono ?_
  rintro e w' ⟨rfl, h1⟩
  exact ⟨_, rfl, h1⟩
theorem ints_ne2 {X : Bs} (h : bytesOf (ints X) ≠ []) : ints X ≠ [] := fun e => h (by rw [e]; rfl)
theorem rapp_at (h : Sat w0 w l) (hi : l[i]? = some (rsA m s)) (ok : s.In n) (hn : n ≤ 4611686018427387904) (P : Bs) (A : Option Addr) (c : Nat) (hR : Recs 1 yC w A c P) (haw : Away w l i A (ints P)) :
    Calls Try.prog 47 #[pt m 0, .slice A P.length c] w fun e w' => e = .returned (.int .i64 (s.appE P.length)) ∧ Sat w0 w' (l.set i (rsA m (s.app P))) := by
  have h1 := h.call1 (A' := refA m (appS s.st (ints P))) (Q := fun e => e = .returned (.int .i64 (rapE s.st (ints P).length))) hi fun F hF ha => rappend_any w m s.st (St.In.ok ok hn) (ints P) A c (fun e => by rw [ints_len]; exact hR.none_ e) (by rw [ints_bytes]; exact hR.src) (by rw [ints_len]; exact hR.len) F hF (fun ad had hne => by
    obtain ⟨j, B, hj, hB, hG⟩ := haw ad had (ints_ne2 hne)
    exact ha j B ad.block hj hB hG)
  rw [show rapE s.st (ints P).length = Proofs.Ytidcdfilfccigaa.appE s.st (ints P).length from rfl, ← st_appE, ints_len, ← st_app] at h1
  exact h1
theorem rsync_at (h : Sat w0 w l) (hi : l[i]? = some (rsA m s)) (ok : s.In n) (hn : n ≤ 4611686018427387904) :
    Calls Try.prog 53 #[pt m 0] w fun e w' => e = .returned (.int .i64 s.stepE) ∧ Sat w0 w' (l.set i (rsA m s.syn)) := by
  have h1 := h.call1 (A' := refA m (syS s.st)) (Q := fun e => e = .returned (.int .i64 (syE s.st))) hi fun F hF _ => rsync_any w m s.st (St.In.ok ok hn) F hF
  rw [← st_stepE, ← st_syn] at h1
  exact h1
theorem rerase_at (h : Sat w0 w l) (hi : l[i]? = some (rsA m s)) (ok : s.In n) (hn : n ≤ 4611686018427387904) :
    Calls Try.prog 55 #[pt m 0] w fun e w' => e = .returned (.int .i64 s.stepE) ∧ Sat w0 w' (l.set i (rsA m s.ers)) := by
  have h1 := h.call1 (A' := refA m (erS s.st)) (Q := fun e => e = .returned (.int .i64 (syE s.st))) hi fun F hF _ => rerase_any w m s.st (St.In.ok ok hn) F hF
  rw [← st_stepE, ← st_ers] at h1
  exact h1
theorem rread_at (h : Sat w0 w l) (hi : l[i]? = some (rsA m s)) (ok : s.In n) (hn : n ≤ 4611686018427387904) (hd : s.down = false) :
    Calls Try.prog 45 #[pt m 0] w fun e w' => ∃ A c, e = .returned (.tuple #[.slice A s.rd.length c, .int .i64 0]) ∧ Sat w0 w' (l ++ [row 5 1 (.slice A s.rd.length c) s.rd.length (s.rd.flatMap yC)]) := by
  obtain ⟨F, hF⟩ := h.get hi
  have h1 := rread_any w m s.st (St.In.ok ok hn) F hF
  rw [st_rd, ints_len, ints_bytes, show upE s.st.down = 0 from by show upE s.down = 0; rw [hd]; rfl] at h1
  refine h1.mono ?_
  rintro e w' ⟨v, rfl, h2, h3⟩
  obtain ⟨A, c, rfl, -⟩ := row_slice h2
  exact ⟨A, c, rfl, h.pushRow h2 h3⟩
end
end Go.Proofs.Ytidcdfilfccigaa
