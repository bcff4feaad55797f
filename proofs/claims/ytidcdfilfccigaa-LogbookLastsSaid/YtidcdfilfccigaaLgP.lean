/- Plain: a logbook on two slabs, step by step. -/
import Derived.Test.YtidcdfilfccigaaLog17
namespace Go.Proofs.Ytidcdfilfccigaa
set_option linter.unusedVariables false
set_option linter.unusedSimpArgs false
set_option linter.unnecessarySimpa false
open Go Go.RowKit

/-- A logbook and its two slabs. -/
structure Lg where
  lb : Lb
  s0 : Sd
  s1 : Sd
def Lg.cur (x : Lg) : Sd := if x.lb.on = 0 then x.s0 else x.s1
def Lg.oth (x : Lg) : Sd := if x.lb.on = 0 then x.s1 else x.s0
def failD (d e : Int) : Int := if e = 0 then d else e
/-- The logbook's slab turned, and what the logbook is then. -/
def Lg.onCur (x : Lg) (s : Sd) (lb : Lb) : Lg := if x.lb.on = 0 then ⟨lb, s, x.s1⟩ else ⟨lb, x.s0, s⟩
def Lg.onOth (x : Lg) (s : Sd) (lb : Lb) : Lg := if x.lb.on = 0 then ⟨lb, x.s0, s⟩ else ⟨lb, s, x.s1⟩
def putT (x : Lg) (n v : Bs) : Int × Lg :=
  if ¬ x.lb.dead = 0 then (x.lb.dead, x) else if 255 < n.length ∨ 4096 < v.length then (8, x) else
  (x.cur.appE (recP 2 n v).length, x.onCur (x.cur.app (recP 2 n v)) ⟨x.lb.on, x.lb.life, if x.cur.appE (recP 2 n v).length = 0 then putN x.lb.L (n, v) else x.lb.L, failD x.lb.dead (x.cur.appE (recP 2 n v).length)⟩)
def dropT (x : Lg) (n : Bs) : Int × Lg :=
  if ¬ x.lb.dead = 0 then (x.lb.dead, x) else if getN x.lb.L n = none then (6, x) else
  (x.cur.appE (recP 3 n []).length, x.onCur (x.cur.app (recP 3 n [])) ⟨x.lb.on, x.lb.life, if x.cur.appE (recP 3 n []).length = 0 then delN x.lb.L n else x.lb.L, failD x.lb.dead (x.cur.appE (recP 3 n []).length)⟩)
def syncT (x : Lg) : Int × Lg :=
  if ¬ x.lb.dead = 0 then (x.lb.dead, x) else (x.cur.stepE, x.onCur x.cur.syn ⟨x.lb.on, x.lb.life, x.lb.L, failD x.lb.dead x.cur.stepE⟩)
/-- All that is there, and its end. -/
def entsP (L : List NV) : Bs := L.flatMap fun y => recP 2 y.1 y.2
def allP (life : Nat) (L : List NV) : Bs := recP 1 [] (be4 life) ++ entsP L ++ recP 4 [] []
def compT (x : Lg) : Int × Lg :=
  if ¬ x.lb.dead = 0 then (x.lb.dead, x) else if x.lb.life = 4294967295 then (8, x) else
  if ¬ x.oth.stepE = 0 then (x.oth.stepE, x.onOth x.oth.ers ⟨x.lb.on, x.lb.life, x.lb.L, x.oth.stepE⟩) else
  if ¬ x.oth.ers.appE (allP (x.lb.life + 1) x.lb.L).length = 0 then (x.oth.ers.appE (allP (x.lb.life + 1) x.lb.L).length, x.onOth (x.oth.ers.app (allP (x.lb.life + 1) x.lb.L)) ⟨x.lb.on, x.lb.life, x.lb.L, x.oth.ers.appE (allP (x.lb.life + 1) x.lb.L).length⟩) else
  if ¬ (x.oth.ers.app (allP (x.lb.life + 1) x.lb.L)).stepE = 0 then ((x.oth.ers.app (allP (x.lb.life + 1) x.lb.L)).stepE, x.onOth (x.oth.ers.app (allP (x.lb.life + 1) x.lb.L)).syn ⟨x.lb.on, x.lb.life, x.lb.L, (x.oth.ers.app (allP (x.lb.life + 1) x.lb.L)).stepE⟩) else
  (0, x.onOth (x.oth.ers.app (allP (x.lb.life + 1) x.lb.L)).syn ⟨1 - x.lb.on, x.lb.life + 1, x.lb.L, x.lb.dead⟩)
section
variable {on lif : Nat} {LL : List NV} {ded : Int} {sd0 sd1 : Sd} {n v : Bs} {e : Int}
theorem put_dead (h : ¬ ded = 0) : putT ⟨⟨on, lif, LL, ded⟩, sd0, sd1⟩ n v = (ded, ⟨⟨on, lif, LL, ded⟩, sd0, sd1⟩) := by
  unfold putT; rw [if_pos h]
theorem put_big (h : ded = 0) (h2 : 255 < n.length ∨ 4096 < v.length) : putT ⟨⟨on, lif, LL, ded⟩, sd0, sd1⟩ n v = (8, ⟨⟨on, lif, LL, ded⟩, sd0, sd1⟩) := by
  unfold putT; rw [if_neg (fun h9 => h9 h), if_pos h2]
theorem put_go (h : ded = 0) (h2 : ¬ 255 < n.length) (h3 : ¬ 4096 < v.length) : putT ⟨⟨on, lif, LL, ded⟩, sd0, sd1⟩ n v = ((Lg.cur ⟨⟨on, lif, LL, ded⟩, sd0, sd1⟩).appE (recP 2 n v).length, Lg.onCur ⟨⟨on, lif, LL, ded⟩, sd0, sd1⟩ ((Lg.cur ⟨⟨on, lif, LL, ded⟩, sd0, sd1⟩).app (recP 2 n v)) ⟨on, lif, if (Lg.cur ⟨⟨on, lif, LL, ded⟩, sd0, sd1⟩).appE (recP 2 n v).length = 0 then putN LL (n, v) else LL, failD ded ((Lg.cur ⟨⟨on, lif, LL, ded⟩, sd0, sd1⟩).appE (recP 2 n v).length)⟩) := by
  unfold putT; rw [if_neg (fun h9 => h9 h), if_neg (by rintro (h9 | h9) <;> contradiction)]
theorem put_ok0 (h : ded = 0) (h2 : ¬ 255 < n.length) (h3 : ¬ 4096 < v.length) (h4 : sd0.appE (recP 2 n v).length = 0) : putT ⟨⟨0, lif, LL, ded⟩, sd0, sd1⟩ n v = (0, ⟨⟨0, lif, putN LL (n, v), failD ded (sd0.appE (recP 2 n v).length)⟩, sd0.app (recP 2 n v), sd1⟩) := by
  rw [put_go h h2 h3]; simp [Lg.cur, Lg.onCur, h4]
theorem put_er0 (h : ded = 0) (h2 : ¬ 255 < n.length) (h3 : ¬ 4096 < v.length) (h4 : ¬ sd0.appE (recP 2 n v).length = 0) : putT ⟨⟨0, lif, LL, ded⟩, sd0, sd1⟩ n v = (sd0.appE (recP 2 n v).length, ⟨⟨0, lif, LL, failD ded (sd0.appE (recP 2 n v).length)⟩, sd0.app (recP 2 n v), sd1⟩) := by
  rw [put_go h h2 h3]; simp [Lg.cur, Lg.onCur, h4]
theorem put_ok1 (h : ded = 0) (h2 : ¬ 255 < n.length) (h3 : ¬ 4096 < v.length) (h4 : sd1.appE (recP 2 n v).length = 0) : putT ⟨⟨1, lif, LL, ded⟩, sd0, sd1⟩ n v = (0, ⟨⟨1, lif, putN LL (n, v), failD ded (sd1.appE (recP 2 n v).length)⟩, sd0, sd1.app (recP 2 n v)⟩) := by
  rw [put_go h h2 h3]; simp [Lg.cur, Lg.onCur, h4]
theorem put_er1 (h : ded = 0) (h2 : ¬ 255 < n.length) (h3 : ¬ 4096 < v.length) (h4 : ¬ sd1.appE (recP 2 n v).length = 0) : putT ⟨⟨1, lif, LL, ded⟩, sd0, sd1⟩ n v = (sd1.appE (recP 2 n v).length, ⟨⟨1, lif, LL, failD ded (sd1.appE (recP 2 n v).length)⟩, sd0, sd1.app (recP 2 n v)⟩) := by
  rw [put_go h h2 h3]; simp [Lg.cur, Lg.onCur, h4]
theorem drop_dead (h : ¬ ded = 0) : dropT ⟨⟨on, lif, LL, ded⟩, sd0, sd1⟩ n = (ded, ⟨⟨on, lif, LL, ded⟩, sd0, sd1⟩) := by
  unfold dropT; rw [if_pos h]
theorem drop_none (h : ded = 0) (h2 : getN LL n = none) : dropT ⟨⟨on, lif, LL, ded⟩, sd0, sd1⟩ n = (6, ⟨⟨on, lif, LL, ded⟩, sd0, sd1⟩) := by
  unfold dropT; rw [if_neg (fun h9 => h9 h), if_pos h2]
theorem drop_go (h : ded = 0) (h2 : getN LL n = some v) : dropT ⟨⟨on, lif, LL, ded⟩, sd0, sd1⟩ n = ((Lg.cur ⟨⟨on, lif, LL, ded⟩, sd0, sd1⟩).appE (recP 3 n []).length, Lg.onCur ⟨⟨on, lif, LL, ded⟩, sd0, sd1⟩ ((Lg.cur ⟨⟨on, lif, LL, ded⟩, sd0, sd1⟩).app (recP 3 n [])) ⟨on, lif, if (Lg.cur ⟨⟨on, lif, LL, ded⟩, sd0, sd1⟩).appE (recP 3 n []).length = 0 then delN LL n else LL, failD ded ((Lg.cur ⟨⟨on, lif, LL, ded⟩, sd0, sd1⟩).appE (recP 3 n []).length)⟩) := by
  unfold dropT; rw [if_neg (fun h9 => h9 h), if_neg (by rw [h2]; exact nofun)]
theorem drop_ok0 (h : ded = 0) (h2 : getN LL n = some v) (h4 : sd0.appE (recP 3 n []).length = 0) : dropT ⟨⟨0, lif, LL, ded⟩, sd0, sd1⟩ n = (0, ⟨⟨0, lif, delN LL n, failD ded (sd0.appE (recP 3 n []).length)⟩, sd0.app (recP 3 n []), sd1⟩) := by
  rw [drop_go h h2]; simp [Lg.cur, Lg.onCur, h4]
theorem drop_er0 (h : ded = 0) (h2 : getN LL n = some v) (h4 : ¬ sd0.appE (recP 3 n []).length = 0) : dropT ⟨⟨0, lif, LL, ded⟩, sd0, sd1⟩ n = (sd0.appE (recP 3 n []).length, ⟨⟨0, lif, LL, failD ded (sd0.appE (recP 3 n []).length)⟩, sd0.app (recP 3 n []), sd1⟩) := by
  rw [drop_go h h2]; simp [Lg.cur, Lg.onCur, h4]
theorem drop_ok1 (h : ded = 0) (h2 : getN LL n = some v) (h4 : sd1.appE (recP 3 n []).length = 0) : dropT ⟨⟨1, lif, LL, ded⟩, sd0, sd1⟩ n = (0, ⟨⟨1, lif, delN LL n, failD ded (sd1.appE (recP 3 n []).length)⟩, sd0, sd1.app (recP 3 n [])⟩) := by
  rw [drop_go h h2]; simp [Lg.cur, Lg.onCur, h4]
theorem drop_er1 (h : ded = 0) (h2 : getN LL n = some v) (h4 : ¬ sd1.appE (recP 3 n []).length = 0) : dropT ⟨⟨1, lif, LL, ded⟩, sd0, sd1⟩ n = (sd1.appE (recP 3 n []).length, ⟨⟨1, lif, LL, failD ded (sd1.appE (recP 3 n []).length)⟩, sd0, sd1.app (recP 3 n [])⟩) := by
  rw [drop_go h h2]; simp [Lg.cur, Lg.onCur, h4]
theorem sync_dead (h : ¬ ded = 0) : syncT ⟨⟨on, lif, LL, ded⟩, sd0, sd1⟩ = (ded, ⟨⟨on, lif, LL, ded⟩, sd0, sd1⟩) := by
  unfold syncT; rw [if_pos h]
theorem sync_go0 (h : ded = 0) : syncT ⟨⟨0, lif, LL, ded⟩, sd0, sd1⟩ = (sd0.stepE, ⟨⟨0, lif, LL, failD ded sd0.stepE⟩, sd0.syn, sd1⟩) := by
  unfold syncT; rw [if_neg (fun h9 => h9 h)]; simp [Lg.cur, Lg.onCur]
theorem sync_go1 (h : ded = 0) : syncT ⟨⟨1, lif, LL, ded⟩, sd0, sd1⟩ = (sd1.stepE, ⟨⟨1, lif, LL, failD ded sd1.stepE⟩, sd0, sd1.syn⟩) := by
  unfold syncT; rw [if_neg (fun h9 => h9 h)]; simp [Lg.cur, Lg.onCur]
theorem comp_dead (h : ¬ ded = 0) : compT ⟨⟨on, lif, LL, ded⟩, sd0, sd1⟩ = (ded, ⟨⟨on, lif, LL, ded⟩, sd0, sd1⟩) := by
  unfold compT; rw [if_pos h]
theorem comp_last (h : ded = 0) (h2 : lif = 4294967295) : compT ⟨⟨on, lif, LL, ded⟩, sd0, sd1⟩ = (8, ⟨⟨on, lif, LL, ded⟩, sd0, sd1⟩) := by
  unfold compT; rw [if_neg (fun h9 => h9 h), if_pos h2]
end
section
variable {lif : Nat} {LL : List NV} {ded : Int} {sd0 sd1 : Sd}
theorem comp_e0 (h : ded = 0) (h2 : ¬ lif = 4294967295) (h3 : ¬ sd1.stepE = 0) : compT ⟨⟨0, lif, LL, ded⟩, sd0, sd1⟩ = (sd1.stepE, ⟨⟨0, lif, LL, failD ded sd1.stepE⟩, sd0, sd1.ers⟩) := by
  unfold compT; rw [if_neg (fun h9 => h9 h), if_neg h2]; simp [Lg.oth, Lg.onOth, h3, failD]
theorem comp_a0 (h : ded = 0) (h2 : ¬ lif = 4294967295) (h3 : sd1.stepE = 0) (h4 : ¬ sd1.ers.appE (allP (lif + 1) LL).length = 0) : compT ⟨⟨0, lif, LL, ded⟩, sd0, sd1⟩ = (sd1.ers.appE (allP (lif + 1) LL).length, ⟨⟨0, lif, LL, failD ded (sd1.ers.appE (allP (lif + 1) LL).length)⟩, sd0, (sd1.ers.app (allP (lif + 1) LL))⟩) := by
  unfold compT; rw [if_neg (fun h9 => h9 h), if_neg h2]; simp [Lg.oth, Lg.onOth, h3, h4, failD]
theorem comp_s0 (h : ded = 0) (h2 : ¬ lif = 4294967295) (h3 : sd1.stepE = 0) (h4 : sd1.ers.appE (allP (lif + 1) LL).length = 0) (h5 : ¬ (sd1.ers.app (allP (lif + 1) LL)).stepE = 0) : compT ⟨⟨0, lif, LL, ded⟩, sd0, sd1⟩ = ((sd1.ers.app (allP (lif + 1) LL)).stepE, ⟨⟨0, lif, LL, failD ded (sd1.ers.app (allP (lif + 1) LL)).stepE⟩, sd0, (sd1.ers.app (allP (lif + 1) LL)).syn⟩) := by
  unfold compT; rw [if_neg (fun h9 => h9 h), if_neg h2]; simp [Lg.oth, Lg.onOth, h3, h4, h5, failD]
theorem comp_ok0 (h : ded = 0) (h2 : ¬ lif = 4294967295) (h3 : sd1.stepE = 0) (h4 : sd1.ers.appE (allP (lif + 1) LL).length = 0) (h5 : (sd1.ers.app (allP (lif + 1) LL)).stepE = 0) : compT ⟨⟨0, lif, LL, ded⟩, sd0, sd1⟩ = (0, ⟨⟨1, lif + 1, LL, ded⟩, sd0, (sd1.ers.app (allP (lif + 1) LL)).syn⟩) := by
  unfold compT; rw [if_neg (fun h9 => h9 h), if_neg h2]; simp [Lg.oth, Lg.onOth, h3, h4, h5]
theorem comp_e1 (h : ded = 0) (h2 : ¬ lif = 4294967295) (h3 : ¬ sd0.stepE = 0) : compT ⟨⟨1, lif, LL, ded⟩, sd0, sd1⟩ = (sd0.stepE, ⟨⟨1, lif, LL, failD ded sd0.stepE⟩, sd0.ers, sd1⟩) := by
  unfold compT; rw [if_neg (fun h9 => h9 h), if_neg h2]; simp [Lg.oth, Lg.onOth, h3, failD]
theorem comp_a1 (h : ded = 0) (h2 : ¬ lif = 4294967295) (h3 : sd0.stepE = 0) (h4 : ¬ sd0.ers.appE (allP (lif + 1) LL).length = 0) : compT ⟨⟨1, lif, LL, ded⟩, sd0, sd1⟩ = (sd0.ers.appE (allP (lif + 1) LL).length, ⟨⟨1, lif, LL, failD ded (sd0.ers.appE (allP (lif + 1) LL).length)⟩, (sd0.ers.app (allP (lif + 1) LL)), sd1⟩) := by
  unfold compT; rw [if_neg (fun h9 => h9 h), if_neg h2]; simp [Lg.oth, Lg.onOth, h3, h4, failD]
theorem comp_s1 (h : ded = 0) (h2 : ¬ lif = 4294967295) (h3 : sd0.stepE = 0) (h4 : sd0.ers.appE (allP (lif + 1) LL).length = 0) (h5 : ¬ (sd0.ers.app (allP (lif + 1) LL)).stepE = 0) : compT ⟨⟨1, lif, LL, ded⟩, sd0, sd1⟩ = ((sd0.ers.app (allP (lif + 1) LL)).stepE, ⟨⟨1, lif, LL, failD ded (sd0.ers.app (allP (lif + 1) LL)).stepE⟩, (sd0.ers.app (allP (lif + 1) LL)).syn, sd1⟩) := by
  unfold compT; rw [if_neg (fun h9 => h9 h), if_neg h2]; simp [Lg.oth, Lg.onOth, h3, h4, h5, failD]
theorem comp_ok1 (h : ded = 0) (h2 : ¬ lif = 4294967295) (h3 : sd0.stepE = 0) (h4 : sd0.ers.appE (allP (lif + 1) LL).length = 0) (h5 : (sd0.ers.app (allP (lif + 1) LL)).stepE = 0) : compT ⟨⟨1, lif, LL, ded⟩, sd0, sd1⟩ = (0, ⟨⟨0, lif + 1, LL, ded⟩, (sd0.ers.app (allP (lif + 1) LL)).syn, sd1⟩) := by
  unfold compT; rw [if_neg (fun h9 => h9 h), if_neg h2]; simp [Lg.oth, Lg.onOth, h3, h4, h5]
end
end Go.Proofs.Ytidcdfilfccigaa
