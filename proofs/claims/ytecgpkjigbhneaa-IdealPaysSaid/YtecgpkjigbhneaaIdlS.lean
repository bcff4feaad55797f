/- The program's ideal: payments in a map; sums over it in any order: what the walks lean on. -/
import Derived.Test.YtecgpkjigbhneaaIdl
import Derived.Test.YtecgpkjigbhneaaIdlR
namespace Go.Proofs.Ytecgpkjigbhneaa
set_option linter.unusedVariables false
set_option linter.unusedSimpArgs false
set_option linter.unnecessarySimpa false
open Go Go.RowKit

theorem ent_old {ps : List PayM} {l : List Pay} {ck : Nat} (h : PsOk ps l ck) : ∀ e ∈ ps.map entM, e.2.2 < ck := fun e he => by
  rw [List.mem_map] at he
  obtain ⟨m, hm, rfl⟩ := he
  exact h.lt m hm
theorem ent_nd {ps : List PayM} {l : List Pay} {ck : Nat} (h : PsOk ps l ck) : ((ps.map entM).map (·.2.2)).Nodup := by
  rw [List.map_map]; exact h.nd
theorem getM_pays (cid : Int) : ∀ (ps : List PayM), getM (ps.map entM) cid = ((ps.map PayM.p).findIdx? fun p => p.id == cid).bind fun i => ps[i]?.map payV
  | [] => rfl
  | m :: ps => by
    have ih := getM_pays cid ps
    unfold getM at ih ⊢
    rw [List.map_cons, List.find?_cons, List.map_cons, List.findIdx?_cons]
    have e : ((entM m).1 == cid) = (m.p.id == cid) := rfl
    rw [e]
    cases h : m.p.id == cid with
    | true => rfl
    | false =>
      simp only
      rw [ih]
      cases hq : (ps.map PayM.p).findIdx? (fun p => p.id == cid) with
      | none => rfl
      | some j => rfl
theorem look_cases {ps : List PayM} {l : List Pay} {ck : Nat} (h : PsOk ps l ck) (cid : Int) : (findP l cid = none ∧ getM (ps.map entM) cid = none) ∨ (∃ (i : Nat) (m : PayM), findP l cid = some i ∧ ps[i]? = some m ∧ l[i]? = some m.p ∧ m.p.id = cid ∧ getM (ps.map entM) cid = some (payV m)) := by
  have hg := getM_pays cid ps
  rw [h.is_] at hg
  cases hf : findP l cid with
  | none =>
    have hf' : l.findIdx? (fun p => p.id == cid) = none := hf
    rw [hf'] at hg
    exact .inl ⟨rfl, hg⟩
  | some i =>
    have hf' : l.findIdx? (fun p => p.id == cid) = some i := hf
    obtain ⟨p, hp, hid⟩ := find_some hf
    have hps : (ps.map PayM.p)[i]? = some p := by rw [h.is_]; exact hp
    rw [List.getElem?_map] at hps
    cases hm : ps[i]? with
    | none => rw [hm] at hps; cases hps
    | some m =>
      rw [hm] at hps
      simp only [Option.map_some, Option.some.injEq] at hps
      subst hps
      rw [hf'] at hg
      simp only [Option.bind_some, hm, Option.map_some] at hg
      exact .inr ⟨i, m, rfl, hm, hp, hid, hg⟩
theorem pay_in {ps : List PayM} {l : List Pay} {ck : Nat} (h : PsOk ps l ck) {m : PayM} (hm : m ∈ ps) : m.p ∈ l := by rw [← h.is_]; exact List.mem_map_of_mem hm
theorem legs_len (l : List Leg) : (edgesL l).length = l.length ∧ (sidesL l).length = l.length ∧ (amsL l).length = l.length := ⟨List.length_map _, List.length_map _, List.length_map _⟩
/-- What was seen of the stamps. -/
structure SeenOk (ps : List PayM) (seen : List Nat) : Prop where
  nd : seen.Nodup
  sub : ∀ s ∈ seen, s ∈ ps.map PayM.st
theorem seen_nil (ps : List PayM) : SeenOk ps [] := ⟨by simp, fun s hs => by simp at hs⟩
theorem seen_more {ps : List PayM} {seen : List Nat} (h : SeenOk ps seen) {m : PayM} (hm : m ∈ ps) (hq : m.st ∉ seen) : SeenOk ps (seen ++ [m.st]) :=
  ⟨List.nodup_append.2 ⟨h.nd, by simp, fun a ha b hb => by simp at hb; subst hb; intro e; subst e; exact hq ha⟩, fun s hs => by
    rcases List.mem_append.1 hs with hs | hs
    · exact h.sub s hs
    · simp at hs; subst hs; exact List.mem_map_of_mem hm⟩
theorem nodup_sub_len : ∀ (l m : List Nat), l.Nodup → (∀ a ∈ l, a ∈ m) → l.length ≤ m.length
  | [], _, _, _ => Nat.zero_le _
  | a :: l, m, hd, hs => by
    rw [List.nodup_cons] at hd
    have ha := hs a (by simp)
    have h1 := nodup_sub_len l (m.erase a) hd.2 fun b hb => by
      have hne : b ≠ a := fun e => hd.1 (e ▸ hb)
      exact (List.mem_erase_of_ne hne).2 (hs b (by simp [hb]))
    rw [List.length_erase_of_mem ha] at h1
    have := List.length_pos_of_mem ha
    simp only [List.length_cons]; omega
theorem seen_len {ps : List PayM} {seen : List Nat} (h : SeenOk ps seen) : seen.length ≤ ps.length := by
  have := nodup_sub_len seen (ps.map PayM.st) h.nd h.sub
  simpa using this
theorem seen_lt {ps : List PayM} {seen : List Nat} (h : SeenOk ps seen) {m : PayM} (hm : m ∈ ps) (hq : m.st ∉ seen) : ps.length - (seen ++ [m.st]).length < ps.length - seen.length := by
  have := seen_len (seen_more h hm hq)
  simp only [List.length_append, List.length_cons, List.length_nil] at this ⊢
  omega
/-- A sum over what was seen. -/
def heldSeen (ps : List PayM) (seen : List Nat) : Int := sumI (ps.map fun m => if m.st ∈ seen then heldOf m.p else 0)
theorem heldSeen_nil (ps : List PayM) : heldSeen ps [] = 0 := by
  unfold heldSeen
  induction ps with
  | nil => rfl
  | cons m ps ih =>
    show (if m.st ∈ ([] : List Nat) then heldOf m.p else 0) + sumI (ps.map fun m => if m.st ∈ ([] : List Nat) then heldOf m.p else 0) = 0
    rw [if_neg (by simp), ih]; rfl
theorem heldSeen_more : ∀ {ps : List PayM} {seen : List Nat} {m : PayM}, (ps.map PayM.st).Nodup → m ∈ ps → m.st ∉ seen → heldSeen ps (seen ++ [m.st]) = heldSeen ps seen + heldOf m.p
  | [], _, _, _, hm, _ => by simp at hm
  | q :: ps, seen, m, hd, hm, hq => by
    rw [List.map_cons, List.nodup_cons] at hd
    unfold heldSeen
    simp only [List.map_cons, sumI]
    by_cases hqm : q.st = m.st
    · have hno : ∀ x ∈ ps, x.st ≠ m.st := fun x hx e => hd.1 (by rw [hqm, ← e]; exact List.mem_map_of_mem hx)
      have hmq : m = q := by
        rcases List.mem_cons.1 hm with h | h
        · exact h
        · exact absurd rfl (hno m h)
      subst hmq
      have e : (ps.map fun m_1 : PayM => if m_1.st ∈ seen ++ [m.st] then heldOf m_1.p else 0) = ps.map fun m_1 : PayM => if m_1.st ∈ seen then heldOf m_1.p else 0 := by
        apply List.map_congr_left
        intro x hx
        have := hno x hx
        simp [this]
      rw [e, if_pos (by simp), if_neg hq]; omega
    · have hm' : m ∈ ps := by
        rcases List.mem_cons.1 hm with h | h
        · subst h; exact absurd rfl hqm
        · exact h
      have ih := heldSeen_more (ps := ps) hd.2 hm' hq
      unfold heldSeen at ih
      rw [ih]
      have e : (q.st ∈ seen ++ [m.st]) ↔ q.st ∈ seen := by simp [hqm]
      by_cases h9 : q.st ∈ seen
      · rw [if_pos (e.2 h9), if_pos h9]; omega
      · rw [if_neg (fun h => h9 (e.1 h)), if_neg h9]; omega
theorem heldSeen_all {ps : List PayM} {l : List Pay} {ck : Nat} (h : PsOk ps l ck) {seen : List Nat} (hs : ∀ e ∈ ps.map entM, e.2.2 ∈ seen) : heldSeen ps seen = heldP l := by
  unfold heldSeen heldP
  rw [← h.is_, List.map_map]
  congr 1
  apply List.map_congr_left
  intro m hm
  rw [if_pos (show m.st ∈ seen from hs (entM m) (List.mem_map_of_mem hm))]
  rfl
theorem sumI_le {α : Type} (f g : α → Int) : ∀ (l : List α), (∀ a ∈ l, f a ≤ g a) → sumI (l.map f) ≤ sumI (l.map g)
  | [], _ => Int.le_refl _
  | a :: l, h => by
    have h1 := h a (by simp)
    have h2 := sumI_le f g l fun b hb => h b (by simp [hb])
    simp only [List.map_cons, sumI]; omega
theorem heldSeen_le {I : Idl} (ok : IOk I) {ps : List PayM} {ck : Nat} (h : PsOk ps I.pays ck) (seen : List Nat) : 0 ≤ heldSeen ps seen ∧ heldSeen ps seen ≤ heldP I.pays := by
  constructor
  · refine sumI_nn _ fun a ha => ?_
    rw [List.mem_map] at ha
    obtain ⟨m, hm, rfl⟩ := ha
    split
    · exact heldOf_nn ok (pay_in h hm)
    · exact Int.le_refl _
  · unfold heldSeen heldP
    rw [← h.is_, List.map_map]
    refine sumI_le _ _ _ fun m hm => ?_
    have := heldOf_nn ok (pay_in h hm)
    dsimp only [Function.comp]
    split <;> omega
/-- The first amounts of a payment. -/
def amTo (l : List Leg) (k : Nat) : Int := sumI ((amsL l).take k)
theorem amTo_snoc {l : List Leg} {k : Nat} {a : Int} (h : (amsL l)[k]? = some a) : amTo l (k + 1) = amTo l k + a := by
  unfold amTo
  rw [List.take_add_one, h, sumI_app]
  simp [sumI]
theorem amTo_all (l : List Leg) : amTo l (amsL l).length = legSum l := by unfold amTo; rw [List.take_length]; rfl
theorem amTo_le {l : List Leg} (h : ∀ x ∈ l, 0 ≤ x.am) (k : Nat) : 0 ≤ amTo l k ∧ amTo l k ≤ legSum l := by
  have hn : ∀ a ∈ amsL l, 0 ≤ a := fun a ha => by
    unfold amsL at ha
    rw [List.mem_map] at ha
    obtain ⟨x, hx, rfl⟩ := ha
    exact h x hx
  have h1 : 0 ≤ amTo l k := sumI_nn _ fun a ha => hn a (List.mem_of_mem_take ha)
  have h2 : 0 ≤ sumI ((amsL l).drop k) := sumI_nn _ fun a ha => hn a (List.mem_of_mem_drop ha)
  have h3 : legSum l = amTo l k + sumI ((amsL l).drop k) := by
    unfold amTo
    rw [← sumI_app, List.take_append_drop]; rfl
  omega
/-- What a payment holds, with what was seen before it. -/
theorem held_room {I : Idl} (ok : IOk I) {ps : List PayM} {ck : Nat} (h : PsOk ps I.pays ck) {seen : List Nat} {m : PayM} (hm : m ∈ ps) (hq : m.st ∉ seen) (hs : m.p.state = 0) (k : Nat) : 0 ≤ heldSeen ps seen + amTo m.p.legs k ∧ heldSeen ps seen + amTo m.p.legs k ≤ heldP I.pays ∧ heldSeen ps seen + legSum m.p.legs = heldSeen ps (seen ++ [m.st]) := by
  have h1 := heldSeen_le ok h seen
  have h2 := heldSeen_le ok h (seen ++ [m.st])
  rw [heldSeen_more h.nd hm hq] at h2 ⊢
  have h3 : heldOf m.p = legSum m.p.legs := by unfold heldOf; rw [if_pos hs]
  have h4 := amTo_le (l := m.p.legs) (fun x hx => ((ok.lg m.p (pay_in h hm)).2.2 x hx).2.2) k
  rw [h3] at h2 ⊢
  omega
theorem held_skip {ps : List PayM} {l : List Pay} {ck : Nat} (h : PsOk ps l ck) {seen : List Nat} {m : PayM} (hm : m ∈ ps) (hq : m.st ∉ seen) (hs : ¬ m.p.state = 0) : heldSeen ps seen = heldSeen ps (seen ++ [m.st]) := by
  rw [heldSeen_more h.nd hm hq]
  unfold heldOf
  rw [if_neg hs]; omega
/-- Which payments were seen not to go over a channel. -/
def NotOver (ps : List PayM) (seen : List Nat) (n : Nat) : Prop := ∀ m ∈ ps, m.st ∈ seen → ¬ (m.p.state = 0 ∧ (n : Int) ∈ edgesL m.p.legs)
theorem notOver_nil (ps : List PayM) (n : Nat) : NotOver ps [] n := fun m _ h => by simp at h
theorem notOver_more {ps : List PayM} {seen : List Nat} {n : Nat} (h : NotOver ps seen n) (hd : (ps.map PayM.st).Nodup) {m : PayM} (hm : m ∈ ps) (hn : ¬ (m.p.state = 0 ∧ (n : Int) ∈ edgesL m.p.legs)) : NotOver ps (seen ++ [m.st]) n := fun q hq hs => by
  rcases List.mem_append.1 hs with hs | hs
  · exact h q hq hs
  · simp at hs
    have key : ∀ (l : List PayM), (l.map PayM.st).Nodup → m ∈ l → q ∈ l → q = m := by
      intro l
      induction l with
      | nil => intro _ h; simp at h
      | cons x l ih =>
        intro hd h1 h2
        rw [List.map_cons, List.nodup_cons] at hd
        rcases List.mem_cons.1 h1 with k1 | k1
        · rcases List.mem_cons.1 h2 with k2 | k2
          · rw [k1, k2]
          · exact absurd (by rw [← k1, ← hs]; exact List.mem_map_of_mem k2) hd.1
        · rcases List.mem_cons.1 h2 with k2 | k2
          · exact absurd (by rw [← k2, hs]; exact List.mem_map_of_mem k1) hd.1
          · exact ih hd.2 k1 k2
    rw [key ps hd hm hq]; exact hn
theorem edges_mem {l : List Leg} {n : Nat} : (n : Int) ∈ edgesL l ↔ ∃ g ∈ l, g.edge = n := by
  unfold edgesL
  rw [List.mem_map]
  constructor
  · rintro ⟨g, hg, h⟩; exact ⟨g, hg, by omega⟩
  · rintro ⟨g, hg, h⟩; exact ⟨g, hg, by omega⟩
theorem over_yes {ps : List PayM} {l : List Pay} {ck : Nat} (h : PsOk ps l ck) {n : Nat} {m : PayM} (hm : m ∈ ps) (hs : m.p.state = 0) (he : (n : Int) ∈ edgesL m.p.legs) : overL l n := ⟨m.p, pay_in h hm, hs, edges_mem.1 he⟩
theorem over_no {ps : List PayM} {l : List Pay} {ck : Nat} (h : PsOk ps l ck) {n : Nat} {seen : List Nat} (hn : NotOver ps seen n) (ha : ∀ e ∈ ps.map entM, e.2.2 ∈ seen) : ¬ overL l n := by
  rintro ⟨p, hp, hs, he⟩
  rw [← h.is_, List.mem_map] at hp
  obtain ⟨m, hm, rfl⟩ := hp
  exact hn m hm (ha (entM m) (List.mem_map_of_mem hm)) ⟨hs, edges_mem.2 he⟩
/-- What an account has; what an end can spend; what became of a payment. -/
def hasP (I : Idl) (who : Int) : Int := if inB I.has.length who = true then I.has.getD who.toNat 0 else 0
def freeP (I : Idl) (id who : Int) : Int := if (sideP24 I.ends id who).2 ≠ 0 then 0 else frN (I.free.getD id.toNat (0, 0)) (sideP24 I.ends id who).1.toNat
def stateP (I : Idl) (id : Int) : Int × Bool := match findP I.pays id with
  | none => (0, false)
  | some i => match I.pays[i]? with
    | none => (0, false)
    | some p => (p.state, true)
theorem has_is {I : Idl} {n : Nat} {a : Int} (h : I.has[n]? = some a) : hasP I (n : Int) = a := by
  have h1 := (List.getElem?_eq_some_iff.1 h).1
  unfold hasP inB
  rw [if_pos (decide_eq_true (by omega)), Int.toNat_natCast, getD_of h]
theorem has_no {I : Idl} {who : Int} (h : inB I.has.length who = false) : hasP I who = 0 := by unfold hasP; rw [if_neg (by rw [h]; decide)]
theorem free_is {I : Idl} {n s : Nat} {who : Int} {f : Int × Int} (hs : sideP24 I.ends (n : Int) who = ((s : Int), 0)) (hf : I.free[n]? = some f) : freeP I (n : Int) who = frN f s := by
  unfold freeP; rw [hs, if_neg (by simp), Int.toNat_natCast, getD_of hf, Int.toNat_natCast]
theorem free_no {I : Idl} {id who : Int} (h : (sideP24 I.ends id who).2 ≠ 0) : freeP I id who = 0 := if_pos h
theorem state_is {I : Idl} {id : Int} {i : Nat} {p : Pay} (hf : findP I.pays id = some i) (hp : I.pays[i]? = some p) : stateP I id = (p.state, true) := by unfold stateP; rw [hf]; simp only [hp]
theorem state_no {I : Idl} {id : Int} (hf : findP I.pays id = none) : stateP I id = (0, false) := by unfold stateP; rw [hf]
/-- A payment more, or turned. -/
theorem psok_snoc {ps : List PayM} {l : List Pay} {ck : Nat} (h : PsOk ps l ck) (m : PayM) (hst : m.st = ck) : PsOk (ps ++ [m]) (l ++ [m.p]) (ck + 1) :=
  ⟨by rw [List.map_append, h.is_]; rfl, fun q hq => by
    rcases List.mem_append.1 hq with hq | hq
    · have := h.lt q hq; omega
    · simp at hq; subst hq; omega, by
    rw [List.map_append]
    refine List.nodup_append.2 ⟨h.nd, by simp, fun a ha b hb => ?_⟩
    simp at hb; subst hb
    rw [List.mem_map] at ha
    obtain ⟨q, hq, rfl⟩ := ha
    have := h.lt q hq
    omega⟩
theorem psok_set {ps : List PayM} {l : List Pay} {ck i : Nat} (h : PsOk ps l ck) {m m' : PayM} (hm : ps[i]? = some m) (hst : m'.st = m.st) : PsOk (ps.set i m') (l.set i m'.p) ck :=
  ⟨by rw [List.map_set, h.is_], fun q hq => by
    rcases List.mem_or_eq_of_mem_set hq with hq | rfl
    · exact h.lt q hq
    · rw [hst]; exact h.lt m (List.mem_of_getElem? hm), by
    rw [List.map_set]
    have : (ps.map PayM.st).set i m'.st = ps.map PayM.st := by rw [hst]; exact set_same24 (by simp [hm])
    rw [this]; exact h.nd⟩
theorem findIdx_ent (cid : Int) : ∀ (ps : List PayM), (ps.map entM).findIdx? (fun p => p.1 == cid) = (ps.map PayM.p).findIdx? fun p => p.id == cid
  | [] => rfl
  | m :: ps => by
    rw [List.map_cons, List.findIdx?_cons, List.map_cons, List.findIdx?_cons, findIdx_ent cid ps]; rfl
theorem putM_pays {ps : List PayM} {l : List Pay} {ck ck0 i : Nat} {cid : Int} (h : PsOk ps l ck) (hf : findP l cid = some i) {m m' : PayM} (hm : ps[i]? = some m) (hst : m'.st = m.st) (hid : m'.p.id = cid) : putM (ps.map entM) cid (payV m') ck0 = (ps.set i m').map entM ∧ putC (ps.map entM) cid ck0 = ck0 := by
  have hq : (ps.map entM).findIdx? (fun p => p.1 == cid) = some i := by
    rw [findIdx_ent, h.is_]; exact hf
  unfold putM putC
  rw [hq]
  refine ⟨?_, rfl⟩
  simp only
  apply List.ext_getElem?
  intro j
  rw [List.getElem?_modify, List.getElem?_map, List.getElem?_map, List.getElem?_set]
  by_cases hj : i = j
  · subst hj
    have hi := (List.getElem?_eq_some_iff.1 hm).1
    obtain ⟨_, he⟩ := List.getElem?_eq_some_iff.1 hm
    simp [hi, entM, hst, hid, he]
  · simp [hj]
theorem rows_set {ps : List PayM} {i : Nat} {m m' : PayM} (hm : ps[i]? = some m) (h : payRows m' = payRows m) : (ps.set i m').flatMap payRows = ps.flatMap payRows := by
  have e : ∀ (l : List PayM), l.flatMap payRows = (l.map payRows).flatten := fun l => by rw [List.flatMap_def]
  rw [e, e, List.map_set, h, set_same24 (by simp [hm])]
/-- A payment's legs, step by step. -/
def pvOf (A : List Int) (k : Nat) : Option Int := if k = 0 then none else A[k - 1]?
theorem pv_next {A : List Int} {k : Nat} {a : Int} (h : A[k]? = some a) : pvOf A (k + 1) = some a := by
  unfold pvOf; rw [if_neg (by omega), Nat.add_sub_cancel]; exact h
theorem pv_no {A : List Int} {k : Nat} {a : Int} (h : k = 0 ∨ ∃ p, A[k - 1]? = some p ∧ ¬ p < a) : ¬ ∃ p, pvOf A k = some p ∧ p < a := by
  rintro ⟨p, hp, hlt⟩
  unfold pvOf at hp
  rcases h with h | ⟨q, hq, hn⟩
  · rw [if_pos h] at hp; cases hp
  · split at hp
    · cases hp
    · rw [hq] at hp; cases hp; exact hn hlt
theorem pv_yes {A : List Int} {k : Nat} {a p : Int} (hk : 0 < k) (h : A[k - 1]? = some p) (hlt : p < a) : ∃ p, pvOf A k = some p ∧ p < a := ⟨p, by unfold pvOf; rw [if_neg (by omega)]; exact h, hlt⟩
theorem begF_cons (ends : List (Nat × Nat)) (F : List (Int × Int)) (fr : Int) (pv : Option Int) (e a : Int) (E A : List Int) : begF ends F fr pv (e :: E) (a :: A) = if (sideP24 ends e fr).2 ≠ 0 then ((sideP24 ends e fr).2, F, [])
    else if a = 0 ∨ (∃ p, pv = some p ∧ p < a) then (1, F, [])
    else if frN (F.getD e.toNat (0, 0)) (sideP24 ends e fr).1.toNat < a then (28, F, [])
    else ((begF ends (addF F e.toNat (sideP24 ends e fr).1.toNat (-a)) (if (sideP24 ends e fr).1 = 0 then ((ends.getD e.toNat (0, 0)).2 : Int) else ((ends.getD e.toNat (0, 0)).1 : Int)) (some a) E A).1,
      (begF ends (addF F e.toNat (sideP24 ends e fr).1.toNat (-a)) (if (sideP24 ends e fr).1 = 0 then ((ends.getD e.toNat (0, 0)).2 : Int) else ((ends.getD e.toNat (0, 0)).1 : Int)) (some a) E A).2.1,
      ⟨e.toNat, (sideP24 ends e fr).1.toNat, a⟩ :: (begF ends (addF F e.toNat (sideP24 ends e fr).1.toNat (-a)) (if (sideP24 ends e fr).1 = 0 then ((ends.getD e.toNat (0, 0)).2 : Int) else ((ends.getD e.toNat (0, 0)).1 : Int)) (some a) E A).2.2) := rfl
theorem payL_cons (paid : Bool) (F : List (Int × Int)) (l : Leg) (L : List Leg) : payL paid F (l :: L) = payL paid (addF F l.edge (if paid = true then 1 - l.side else l.side) l.am) L := rfl
def comb (L : List Leg) (r : Int × List (Int × Int) × List Leg) : Int × List (Int × Int) × List Leg := (r.1, r.2.1, L ++ r.2.2)
section
variable {ends : List (Nat × Nat)} {F : List (Int × Int)} {fr e a : Int} {pv : Option Int} {E A : List Int} {k : Nat} (he : E[k]? = some e) (ha : A[k]? = some a)
include he ha
theorem beg_open : begF ends F fr pv (E.drop k) (A.drop k) = begF ends F fr pv (e :: E.drop (k + 1)) (a :: A.drop (k + 1)) := by
  obtain ⟨h1, rfl⟩ := List.getElem?_eq_some_iff.1 he
  obtain ⟨h2, rfl⟩ := List.getElem?_eq_some_iff.1 ha
  rw [List.drop_eq_getElem_cons h1, List.drop_eq_getElem_cons h2]
theorem beg_side {v : Int} (hs : sideP24 ends e fr = (0, v)) (hv : v ≠ 0) : begF ends F fr pv (E.drop k) (A.drop k) = (v, F, []) := by
  rw [beg_open he ha, begF_cons, hs, if_pos hv]
theorem beg_amt {v : Int} (hs : sideP24 ends e fr = (v, 0)) (hb : a = 0 ∨ ∃ p, pv = some p ∧ p < a) : begF ends F fr pv (E.drop k) (A.drop k) = (1, F, []) := by
  rw [beg_open he ha, begF_cons, hs, if_neg (by simp), if_pos hb]
omit he in
theorem beg_room {n s : Nat} {f : Int × Int} (he : E[k]? = some (n : Int)) (hs : sideP24 ends (n : Int) fr = ((s : Int), 0)) (hb : ¬ (a = 0 ∨ ∃ p, pv = some p ∧ p < a)) (hf : F[n]? = some f) (hr : frN f s < a) : begF ends F fr pv (E.drop k) (A.drop k) = (28, F, []) := by
  rw [beg_open he ha, begF_cons, hs, if_neg (by simp), if_neg hb, Int.toNat_natCast, getD_of hf, Int.toNat_natCast, if_pos hr]
omit he in
theorem beg_go {n s : Nat} {f : Int × Int} {d : Nat × Nat} {L : List Leg} (he : E[k]? = some (n : Int)) (hs : sideP24 ends (n : Int) fr = ((s : Int), 0)) (hb : ¬ (a = 0 ∨ ∃ p, pv = some p ∧ p < a)) (hf : F[n]? = some f) (hr : ¬ frN f s < a) (hd : ends[n]? = some d) :
    comb L (begF ends F fr pv (E.drop k) (A.drop k)) = comb (L ++ [⟨n, s, a⟩]) (begF ends (F.set n (addN f s (-a))) (if (s : Int) = 0 then (d.2 : Int) else (d.1 : Int)) (pvOf A (k + 1)) (E.drop (k + 1)) (A.drop (k + 1))) := by
  rw [beg_open he ha, begF_cons, hs, if_neg (by simp), if_neg hb, Int.toNat_natCast, getD_of hf, Int.toNat_natCast, if_neg hr, getD_of hd, addF_of hf, pv_next ha]
  simp [comb]
end
theorem beg_done {ends : List (Nat × Nat)} {F : List (Int × Int)} {fr : Int} {pv : Option Int} {L : List Leg} {A : List Int} : comb L (begF ends F fr pv [] A) = (0, F, L) := by
  have : begF ends F fr pv [] A = (0, F, []) := by cases A <;> rfl
  rw [this]; simp [comb]
theorem set_free_nn {F : List (Int × Int)} {n : Nat} {u v : Int} (h : ∀ f ∈ F, 0 ≤ f.1 ∧ 0 ≤ f.2) (hu : 0 ≤ u) (hv : 0 ≤ v) : ∀ f ∈ F.set n (u, v), 0 ≤ f.1 ∧ 0 ≤ f.2 := by
  intro f hf
  rcases List.mem_or_eq_of_mem_set hf with hf | rfl
  · exact h f hf
  · exact ⟨hu, hv⟩
theorem edgesL_snoc (L : List Leg) (x : Leg) : edgesL (L ++ [x]) = edgesL L ++ [(x.edge : Int)] := by simp [edgesL]
theorem sidesL_snoc (L : List Leg) (x : Leg) : sidesL (L ++ [x]) = sidesL L ++ [(x.side : Int)] := by simp [sidesL]
theorem amsL_snoc (L : List Leg) (x : Leg) : amsL (L ++ [x]) = amsL L ++ [x.am] := by simp [amsL]
/-- A payment's legs, being paid. -/
theorem payL_next {paid : Bool} {L : List Leg} {k : Nat} {F : List (Int × Int)} {l : Leg} {f : Int × Int} (h : L[k]? = some l) (hf : F[l.edge]? = some f) : payL paid F (L.drop k) = payL paid (F.set l.edge (addN f (if paid = true then 1 - l.side else l.side) l.am)) (L.drop (k + 1)) := by
  obtain ⟨h1, rfl⟩ := List.getElem?_eq_some_iff.1 h
  rw [List.drop_eq_getElem_cons h1]
  rw [payL_cons, addF_of hf]
theorem leg_drop {L : List Leg} {k : Nat} {l : Leg} (h : L[k]? = some l) : legSum (L.drop k) = l.am + legSum (L.drop (k + 1)) := by
  obtain ⟨h1, rfl⟩ := List.getElem?_eq_some_iff.1 h
  rw [List.drop_eq_getElem_cons h1]; rfl
theorem leg_cols {L : List Leg} {k : Nat} {e s : Nat} {a : Int} (h : L[k]? = some ⟨e, s, a⟩) : (edgesL L)[k]? = some (e : Int) ∧ (sidesL L)[k]? = some (s : Int) ∧ (amsL L)[k]? = some a := by
  unfold edgesL sidesL amsL
  rw [List.getElem?_map, List.getElem?_map, List.getElem?_map, h]
  exact ⟨rfl, rfl, rfl⟩
def newE (X : List Int) : Int := if 8 < X.length then 8 else (sumP 0 X).2
end Go.Proofs.Ytecgpkjigbhneaa
