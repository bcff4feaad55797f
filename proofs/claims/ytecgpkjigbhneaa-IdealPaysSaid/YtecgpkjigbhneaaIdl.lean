/- Ideals as they lie in memory. -/
import Derived.Test.YtecgpkjigbhneaaIdlQ
import Derived.Test.YtecgpkjigbhneaaGs
import Derived.Test.YtecgpkjigbhneaaGiter
import Derived.Test.YtecgpkjigbhneaaGk
import Derived.Test.YtecgpkjigbhneaaSumA
namespace Go.Proofs.Ytecgpkjigbhneaa
set_option linter.unusedVariables false
set_option linter.unusedSimpArgs false
set_option linter.unnecessarySimpa false
open Go Go.RowKit

def enC (e : Nat × Nat) : List Value := [.int .i64 (e.1 : Nat), .int .i64 (e.2 : Nat)]
def frC (f : Int × Int) : List Value := [.int .u64 f.1, .int .u64 f.2]
theorem enC_len (e : Nat × Nat) : (enC e).length = 2 := rfl
theorem frC_len (f : Int × Int) : (frC f).length = 2 := rfl
def edgesL (l : List Leg) : List Int := l.map fun x => (x.edge : Int)
def sidesL (l : List Leg) : List Int := l.map fun x => (x.side : Int)
def amsL (l : List Leg) : List Int := l.map Leg.am
/-- A payment of the program's, in memory. -/
structure PayM where
  A1 : Option Addr
  c1 : Nat
  A2 : Option Addr
  c2 : Nat
  A3 : Option Addr
  c3 : Nat
  st : Nat
  p : Pay
def payV (m : PayM) : Value := .agg #[.int .i64 m.p.state, .slice m.A1 (edgesL m.p.legs).length m.c1, .slice m.A2 (sidesL m.p.legs).length m.c2, .slice m.A3 (amsL m.p.legs).length m.c3]
def entM (m : PayM) : Ent := (m.p.id, payV m, m.st)
def payRows (m : PayM) : List RowD := [⟨3, 1, .slice m.A1 (edgesL m.p.legs).length m.c1, (edgesL m.p.legs).length, (edgesL m.p.legs).flatMap iC_i64⟩, ⟨3, 1, .slice m.A2 (sidesL m.p.legs).length m.c2, (sidesL m.p.legs).length, (sidesL m.p.legs).flatMap iC_i64⟩, ⟨23, 1, .slice m.A3 (amsL m.p.legs).length m.c3, (amsL m.p.legs).length, (amsL m.p.legs).flatMap iC_u64⟩]
structure IdM where
  Ae : Option Addr
  ce : Nat
  Af : Option Addr
  cf : Nat
  Ah : Option Addr
  ch : Nat
  r : Nat
  ck : Nat
  ps : List PayM
structure PsOk (ps : List PayM) (l : List Pay) (ck : Nat) : Prop where
  is_ : ps.map PayM.p = l
  lt : ∀ m ∈ ps, m.st < ck
  nd : (ps.map PayM.st).Nodup
def idThings (b : Nat) (I : Idl) (m : IdM) : List Asn := [box b 61 [.slice m.Ae I.ends.length m.ce, .slice m.Af I.free.length m.cf, .map (some m.r), .slice m.Ah I.has.length m.ch],
  row 63 2 (.slice m.Ae I.ends.length m.ce) I.ends.length (I.ends.flatMap enC), row 31 2 (.slice m.Af I.free.length m.cf) I.free.length (I.free.flatMap frC), row 23 1 (.slice m.Ah I.has.length m.ch) I.has.length (I.has.flatMap iC_u64), mapA m.r .u64 (m.ps.map entM) m.ck, bag (m.ps.flatMap payRows)]
/-- The program's ideal. -/
def idA (b : Nat) (I : Idl) : Asn := told (fun m : IdM => PsOk m.ps I.pays m.ck) (idThings b I)
/-- A payment of the document's, in memory. -/
structure PayR where
  A : Option Addr
  c : Nat
  p : Pay
def legC (l : Leg) : List Value := [.int .i64 (l.edge : Nat), .int .i64 (l.side : Nat), .int .u64 l.am]
theorem legC_len (l : Leg) : (legC l).length = 3 := rfl
def payC (q : PayR) : List Value := [.int .u64 q.p.id, .int .i64 q.p.state, .slice q.A q.p.legs.length q.c]
theorem payC_len (q : PayR) : (payC q).length = 3 := rfl
def legRows (q : PayR) : List RowD := [⟨92, 3, .slice q.A q.p.legs.length q.c, q.p.legs.length, q.p.legs.flatMap legC⟩]
structure RefM where
  Ah : Option Addr
  ch : Nat
  Ae : Option Addr
  ce : Nat
  Af : Option Addr
  cf : Nat
  Al : Option Addr
  cl : Nat
  qs : List PayR
def refThings (b : Nat) (I : Idl) (m : RefM) : List Asn := [box b 74 [.slice m.Ah I.has.length m.ch, .slice m.Ae I.ends.length m.ce, .slice m.Af I.free.length m.cf, .slice m.Al m.qs.length m.cl],
  row 23 1 (.slice m.Ah I.has.length m.ch) I.has.length (I.has.flatMap iC_u64), row 63 2 (.slice m.Ae I.ends.length m.ce) I.ends.length (I.ends.flatMap enC), row 31 2 (.slice m.Af I.free.length m.cf) I.free.length (I.free.flatMap frC), row 83 3 (.slice m.Al m.qs.length m.cl) m.qs.length (m.qs.flatMap payC), bag (m.qs.flatMap legRows)]
/-- The document's ideal. -/
def refA (b : Nat) (I : Idl) : Asn := told (fun m : RefM => m.qs.map PayR.p = I.pays) (refThings b I)
/- Rows, in short. -/
abbrev rI (A : Option Addr) (n c : Nat) (X : List Int) : Asn := row 3 1 (.slice A n c) n (X.flatMap iC_i64)
abbrev rIl (A : Option Addr) (c : Nat) (X : List Int) : Asn := rI A X.length c X
abbrev rU (A : Option Addr) (n c : Nat) (X : List Int) : Asn := row 23 1 (.slice A n c) n (X.flatMap iC_u64)
abbrev rUl (A : Option Addr) (c : Nat) (X : List Int) : Asn := rU A X.length c X
abbrev rE (A : Option Addr) (n c : Nat) (X : List (Nat × Nat)) : Asn := row 63 2 (.slice A n c) n (X.flatMap enC)
abbrev rEl (A : Option Addr) (c : Nat) (X : List (Nat × Nat)) : Asn := rE A X.length c X
abbrev rF (A : Option Addr) (n c : Nat) (X : List (Int × Int)) : Asn := row 31 2 (.slice A n c) n (X.flatMap frC)
abbrev rFl (A : Option Addr) (c : Nat) (X : List (Int × Int)) : Asn := rF A X.length c X
abbrev rL (A : Option Addr) (n c : Nat) (X : List Leg) : Asn := row 92 3 (.slice A n c) n (X.flatMap legC)
abbrev rLl (A : Option Addr) (c : Nat) (X : List Leg) : Asn := rL A X.length c X
abbrev rP (A : Option Addr) (n c : Nat) (X : List PayR) : Asn := row 83 3 (.slice A n c) n (X.flatMap payC)
abbrev rPl (A : Option Addr) (c : Nat) (X : List PayR) : Asn := rP A X.length c X
section
variable {w0 w : World} {G : Nat → Prop} {b : Nat}
theorem id_open {I : Idl} (h : Sat w0 w [idA b I, rest w0 G]) : ∃ (Ae : Option Addr) (ce : Nat) (Af : Option Addr) (cf : Nat) (Ah : Option Addr) (ch r ck : Nat) (ps : List PayM), PsOk ps I.pays ck ∧ Sat w0 w [rest w0 G, box b 61 [.slice Ae I.ends.length ce, .slice Af I.free.length cf, .map (some r), .slice Ah I.has.length ch],
    row 63 2 (.slice Ae I.ends.length ce) I.ends.length (I.ends.flatMap enC), row 31 2 (.slice Af I.free.length cf) I.free.length (I.free.flatMap frC), row 23 1 (.slice Ah I.has.length ch) I.has.length (I.has.flatMap iC_u64), mapA r .u64 (ps.map entM) ck, bag (ps.flatMap payRows)] := by
  obtain ⟨⟨Ae, ce, Af, cf, Ah, ch, r, ck, ps⟩, hp, h1⟩ := Sat.openTold (p := fun m : IdM => PsOk m.ps I.pays m.ck) (f := idThings b I) [rest w0 G] (h.pick [1, 0] (by decide))
  exact ⟨Ae, ce, Af, cf, Ah, ch, r, ck, ps, hp, h1⟩
theorem id_shut {H : List Int} {E : List (Nat × Nat)} {F : List (Int × Int)} {l : List Pay} {Ae : Option Addr} {ce : Nat} {Af : Option Addr} {cf : Nat} {Ah : Option Addr} {ch r ck : Nat} {ps : List PayM} {n1 n2 n3 : Nat} (hp : PsOk ps l ck) (h1 : n1 = E.length) (h2 : n2 = F.length) (h3 : n3 = H.length)
    (h : Sat w0 w [rest w0 G, box b 61 [.slice Ae n1 ce, .slice Af n2 cf, .map (some r), .slice Ah n3 ch], row 63 2 (.slice Ae n1 ce) n1 (E.flatMap enC), row 31 2 (.slice Af n2 cf) n2 (F.flatMap frC), row 23 1 (.slice Ah n3 ch) n3 (H.flatMap iC_u64), mapA r .u64 (ps.map entM) ck, bag (ps.flatMap payRows)]) : Sat w0 w [idA b ⟨H, E, F, l⟩, rest w0 G] := by
  subst h1 h2 h3
  exact (Sat.shutTold (p := fun m : IdM => PsOk m.ps l m.ck) (f := idThings b ⟨H, E, F, l⟩) [rest w0 G] ⟨Ae, ce, Af, cf, Ah, ch, r, ck, ps⟩ hp h).pick [1, 0] (by decide)
theorem ref_open {I : Idl} (h : Sat w0 w [refA b I, rest w0 G]) : ∃ (Ah : Option Addr) (ch : Nat) (Ae : Option Addr) (ce : Nat) (Af : Option Addr) (cf : Nat) (Al : Option Addr) (cl : Nat) (qs : List PayR), qs.map PayR.p = I.pays ∧ Sat w0 w [rest w0 G, box b 74 [.slice Ah I.has.length ch, .slice Ae I.ends.length ce, .slice Af I.free.length cf, .slice Al qs.length cl],
    row 23 1 (.slice Ah I.has.length ch) I.has.length (I.has.flatMap iC_u64), row 63 2 (.slice Ae I.ends.length ce) I.ends.length (I.ends.flatMap enC), row 31 2 (.slice Af I.free.length cf) I.free.length (I.free.flatMap frC), row 83 3 (.slice Al qs.length cl) qs.length (qs.flatMap payC), bag (qs.flatMap legRows)] := by
  obtain ⟨⟨Ah, ch, Ae, ce, Af, cf, Al, cl, qs⟩, hp, h1⟩ := Sat.openTold (p := fun m : RefM => m.qs.map PayR.p = I.pays) (f := refThings b I) [rest w0 G] (h.pick [1, 0] (by decide))
  exact ⟨Ah, ch, Ae, ce, Af, cf, Al, cl, qs, hp, h1⟩
theorem ref_shut {H : List Int} {E : List (Nat × Nat)} {F : List (Int × Int)} {l : List Pay} {Ah : Option Addr} {ch : Nat} {Ae : Option Addr} {ce : Nat} {Af : Option Addr} {cf : Nat} {Al : Option Addr} {cl : Nat} {qs : List PayR} {n1 n2 n3 n4 : Nat} (hp : qs.map PayR.p = l) (h1 : n1 = E.length) (h2 : n2 = F.length) (h3 : n3 = H.length) (h4 : n4 = qs.length)
    (h : Sat w0 w [rest w0 G, box b 74 [.slice Ah n3 ch, .slice Ae n1 ce, .slice Af n2 cf, .slice Al n4 cl], row 23 1 (.slice Ah n3 ch) n3 (H.flatMap iC_u64), row 63 2 (.slice Ae n1 ce) n1 (E.flatMap enC), row 31 2 (.slice Af n2 cf) n2 (F.flatMap frC), row 83 3 (.slice Al n4 cl) n4 (qs.flatMap payC), bag (qs.flatMap legRows)]) : Sat w0 w [refA b ⟨H, E, F, l⟩, rest w0 G] := by
  subst h1 h2 h3 h4
  exact (Sat.shutTold (p := fun m : RefM => m.qs.map PayR.p = l) (f := refThings b ⟨H, E, F, l⟩) [rest w0 G] ⟨Ah, ch, Ae, ce, Af, cf, Al, cl, qs⟩ hp h).pick [1, 0] (by decide)
variable {l : List Asn}
/-- A payment's rows. -/
theorem pay_edges (S : Sat w0 w l) (i : Nat) {ps : List PayM} (hi : l[i]? = some (bag (ps.flatMap payRows))) {m : PayM} (hm : m ∈ ps) (hl : (edgesL m.p.legs).length ≤ 1000) : Recs 1 iC_i64 w m.A1 m.c1 (edgesL m.p.legs) :=
  Recs.ofRow (S.bagRow i hi (r := ⟨3, 1, .slice m.A1 (edgesL m.p.legs).length m.c1, (edgesL m.p.legs).length, (edgesL m.p.legs).flatMap iC_i64⟩) (List.mem_flatMap.2 ⟨_, hm, by simp [payRows, legRows]⟩)) (by omega)
theorem pay_sides (S : Sat w0 w l) (i : Nat) {ps : List PayM} (hi : l[i]? = some (bag (ps.flatMap payRows))) {m : PayM} (hm : m ∈ ps) (hl : (sidesL m.p.legs).length ≤ 1000) : Recs 1 iC_i64 w m.A2 m.c2 (sidesL m.p.legs) :=
  Recs.ofRow (S.bagRow i hi (r := ⟨3, 1, .slice m.A2 (sidesL m.p.legs).length m.c2, (sidesL m.p.legs).length, (sidesL m.p.legs).flatMap iC_i64⟩) (List.mem_flatMap.2 ⟨_, hm, by simp [payRows, legRows]⟩)) (by omega)
theorem pay_ams (S : Sat w0 w l) (i : Nat) {ps : List PayM} (hi : l[i]? = some (bag (ps.flatMap payRows))) {m : PayM} (hm : m ∈ ps) (hl : (amsL m.p.legs).length ≤ 1000) : Recs 1 iC_u64 w m.A3 m.c3 (amsL m.p.legs) :=
  Recs.ofRow (S.bagRow i hi (r := ⟨23, 1, .slice m.A3 (amsL m.p.legs).length m.c3, (amsL m.p.legs).length, (amsL m.p.legs).flatMap iC_u64⟩) (List.mem_flatMap.2 ⟨_, hm, by simp [payRows, legRows]⟩)) (by omega)
theorem pay_legs (S : Sat w0 w l) (i : Nat) {qs : List PayR} (hi : l[i]? = some (bag (qs.flatMap legRows))) {q : PayR} (hq : q ∈ qs) (hl : q.p.legs.length ≤ 1000) : Recs 3 legC w q.A q.c q.p.legs :=
  Recs.ofRow (S.bagRow i hi (r := ⟨92, 3, .slice q.A q.p.legs.length q.c, q.p.legs.length, q.p.legs.flatMap legC⟩) (List.mem_flatMap.2 ⟨_, hq, by simp [payRows, legRows]⟩)) (by omega)
theorem bag_pay (S : Sat w0 w l) {ps : List PayM} (m : PayM) (b i j k : Nat) (hb : l[b]? = some (bag (ps.flatMap payRows)))
    (hi : l[i]? = some (row 3 1 (.slice m.A1 (edgesL m.p.legs).length m.c1) (edgesL m.p.legs).length ((edgesL m.p.legs).flatMap iC_i64))) (hj : l[j]? = some (row 3 1 (.slice m.A2 (sidesL m.p.legs).length m.c2) (sidesL m.p.legs).length ((sidesL m.p.legs).flatMap iC_i64))) (hk : l[k]? = some (row 23 1 (.slice m.A3 (amsL m.p.legs).length m.c3) (amsL m.p.legs).length ((amsL m.p.legs).flatMap iC_u64)))
    (h : [b, i, j, k].Nodup) : Sat w0 w ((((l.set b (bag ((ps ++ [m]).flatMap payRows))).set i emp).set j emp).set k emp) := by
  simp only [List.nodup_cons, List.mem_cons, List.not_mem_nil, or_false, not_or] at h
  obtain ⟨⟨h1, h2, h3⟩, ⟨h4, h5⟩, h6, _⟩ := h
  have hbl := (List.getElem?_eq_some_iff.1 hb).1
  have beq : ∀ {p q : Nat}, p ≠ q → Nat.beq p q = false := fun {p q} h => by
    cases hq : Nat.beq p q with
    | false => rfl
    | true => exact absurd (Nat.eq_of_beq_eq_true hq) h
  have s1 := S.bagAdd b i hb hi (beq h1)
  have s2 := s1.bagAdd b j (by rw [List.getElem?_set_ne (Ne.symm h1), List.getElem?_set_self hbl]) (by rw [List.getElem?_set_ne h4, List.getElem?_set_ne h2]; exact hj) (beq h2)
  have s3 := s2.bagAdd b k (by rw [List.getElem?_set_ne (Ne.symm h2), List.getElem?_set_self (by simpa using hbl)]) (by rw [List.getElem?_set_ne h6, List.getElem?_set_ne h3, List.getElem?_set_ne h5, List.getElem?_set_ne h3]; exact hk) (beq h3)
  have e : ((((l.set b (bag (ps.flatMap payRows ++ [⟨3, 1, .slice m.A1 (edgesL m.p.legs).length m.c1, (edgesL m.p.legs).length, (edgesL m.p.legs).flatMap iC_i64⟩]))).set i emp).set b (bag (ps.flatMap payRows ++ [⟨3, 1, .slice m.A1 (edgesL m.p.legs).length m.c1, (edgesL m.p.legs).length, (edgesL m.p.legs).flatMap iC_i64⟩] ++ [⟨3, 1, .slice m.A2 (sidesL m.p.legs).length m.c2, (sidesL m.p.legs).length, (sidesL m.p.legs).flatMap iC_i64⟩]))).set j emp).set b (bag (ps.flatMap payRows ++ [⟨3, 1, .slice m.A1 (edgesL m.p.legs).length m.c1, (edgesL m.p.legs).length, (edgesL m.p.legs).flatMap iC_i64⟩] ++ [⟨3, 1, .slice m.A2 (sidesL m.p.legs).length m.c2, (sidesL m.p.legs).length, (sidesL m.p.legs).flatMap iC_i64⟩] ++ [⟨23, 1, .slice m.A3 (amsL m.p.legs).length m.c3, (amsL m.p.legs).length, (amsL m.p.legs).flatMap iC_u64⟩])) = ((l.set b (bag ((ps ++ [m]).flatMap payRows))).set i emp).set j emp := by
    rw [List.set_comm _ _ (Ne.symm h1), List.set_set, List.set_comm _ _ (Ne.symm h2), List.set_comm (l := l.set b _) _ _ (Ne.symm h1), List.set_set]
    simp [payRows]
  rw [e] at s3
  exact s3
theorem bag_legs (S : Sat w0 w l) {qs : List PayR} (q : PayR) (b i : Nat) (hb : l[b]? = some (bag (qs.flatMap legRows))) (hi : l[i]? = some (row 92 3 (.slice q.A q.p.legs.length q.c) q.p.legs.length (q.p.legs.flatMap legC))) (h : Nat.beq b i = false) : Sat w0 w ((l.set b (bag ((qs ++ [q]).flatMap legRows))).set i emp) := by
  have s1 := S.bagAdd b i hb hi h
  have e : qs.flatMap legRows ++ [⟨92, 3, .slice q.A q.p.legs.length q.c, q.p.legs.length, q.p.legs.flatMap legC⟩] = (qs ++ [q]).flatMap legRows := by simp [legRows]
  rw [e] at s1
  exact s1
/-- A channel's two ends, as a slice. -/
theorem ends_recs (S : Sat w0 w l) (i : Nat) {A : Option Addr} {n c : Nat} {X : List (Nat × Nat)} (hi : l[i]? = some (row 63 2 (.slice A n c) n (X.flatMap enC))) {m p q : Nat} (hm : X[m]? = some (p, q)) : Recs 1 iC_i64 w (Option.map (·.add (m * 2)) A) 2 [(p : Int), (q : Int)] := by
  refine ⟨fun h => ?_, fun ad had j u hj => ?_, by simp⟩
  · cases hA : A with
    | none =>
      have h9 := row_some S i hi (m := 0) (by
        have h1 := (S.rowOf hi).1
        rw [recs_len enC_len] at h1
        have := (List.getElem?_eq_some_iff.1 hm).1
        omega)
      rw [hA] at h9; cases h9
    | some ad => rw [hA] at h; cases h
  · cases hA : A with
    | none => rw [hA] at had; cases had
    | some a0 =>
      rw [hA] at had
      simp only [Option.map_some, Option.some.injEq] at had
      subst had
      have key : ∀ (t : Nat) (v : Value), (enC (p, q))[t]? = some v → w.cell? (a0.add (m * 2 + t)) = some v := fun t v hv => by
        obtain ⟨ad, h1, h2⟩ := cRec S i enC_len hi t hm hv
        rw [hA] at h1; cases h1
        exact h2
      rw [add_add]
      match j with
      | 0 => exact key 0 u (by simpa [iC_i64, enC] using hj)
      | 1 => exact key 1 u (by simpa [iC_i64, enC] using hj)
      | j + 2 => simp [iC_i64] at hj
end
theorem words_of_recs {w : World} {A : Option Addr} {c : Nat} {xs : List Int} (h : Recs 1 iC_u64 w A c xs) (hu : ∀ a ∈ xs, U64 a) (hl : xs.length ≤ 1000) : Words w A c xs := by
  have key : ∀ l : List Int, l.flatMap iC_u64 = words l := by
    intro l
    induction l with
    | nil => rfl
    | cons a l ih => rw [List.flatMap_cons, ih]; rfl
  have e := key xs
  exact ⟨fun hn => by have := h.none_ hn; exact ⟨this.1, this.2⟩, by rw [← e]; exact h.src, fun a ha => hu a ha, by omega⟩
end Go.Proofs.Ytecgpkjigbhneaa
