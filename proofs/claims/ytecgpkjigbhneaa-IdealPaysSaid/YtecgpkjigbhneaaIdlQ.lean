/- Ideals: each step keeps what there is: plain. -/
import Derived.Test.YtecgpkjigbhneaaIdlP
namespace Go.Proofs.Ytecgpkjigbhneaa
set_option linter.unusedVariables false
set_option linter.unusedSimpArgs false
set_option linter.unnecessarySimpa false
open Go Go.RowKit

theorem set_same24 {α : Type} {l : List α} {i : Nat} {a : α} (h : l[i]? = some a) : l.set i a = l := by
  obtain ⟨hi, rfl⟩ := List.getElem?_eq_some_iff.1 h
  exact List.set_getElem_self hi
theorem addN_parts (f : Int × Int) (s : Nat) (v : Int) : (addN f s v).1 + (addN f s v).2 = f.1 + f.2 + v ∧ (0 ≤ f.1 → 0 ≤ f.2 → 0 ≤ frN f s + v → 0 ≤ (addN f s v).1 ∧ 0 ≤ (addN f s v).2) := by
  unfold addN frN
  split <;> dsimp only <;> constructor <;> omega
theorem addF_nn {F : List (Int × Int)} {n : Nat} {f : Int × Int} (h : ∀ f ∈ F, 0 ≤ f.1 ∧ 0 ≤ f.2) (hf : F[n]? = some f) (s : Nat) {v : Int} (hv : 0 ≤ frN f s + v) : ∀ g ∈ addF F n s v, 0 ≤ g.1 ∧ 0 ≤ g.2 := by
  intro g hg
  rw [addF_of hf] at hg
  rcases List.mem_or_eq_of_mem_set hg with hg | rfl
  · exact h g hg
  · obtain ⟨h1, h2⟩ := h f (List.mem_of_getElem? hf)
    exact (addN_parts f s v).2 h1 h2 hv
theorem frN_nn {f : Int × Int} (h : 0 ≤ f.1 ∧ 0 ≤ f.2) (s : Nat) : 0 ≤ frN f s := by unfold frN; split <;> omega
/-- Legs that there can be, of so many channels. -/
def LegsOk (n : Nat) (L : List Leg) : Prop := ∀ l ∈ L, l.edge < n ∧ l.side < 2 ∧ 0 ≤ l.am
theorem payL_len (paid : Bool) : ∀ (L : List Leg) (F : List (Int × Int)), (payL paid F L).length = F.length
  | [], _ => rfl
  | l :: L, F => by unfold payL; rw [payL_len paid L, addF_len]
theorem payL_sum (paid : Bool) : ∀ (L : List Leg) (F : List (Int × Int)), LegsOk F.length L → sumF (payL paid F L) = sumF F + legSum L
  | [], F, _ => by simp [payL, legSum, sumI]
  | l :: L, F, h => by
    have hl := h l (by simp)
    unfold payL
    rw [payL_sum paid L _ (by rw [addF_len]; exact fun x hx => h x (by simp [hx])), addF_sum hl.1]
    simp only [legSum, List.map_cons, sumI]; omega
theorem payL_nn (paid : Bool) : ∀ (L : List Leg) (F : List (Int × Int)), LegsOk F.length L → (∀ f ∈ F, 0 ≤ f.1 ∧ 0 ≤ f.2) → ∀ f ∈ payL paid F L, 0 ≤ f.1 ∧ 0 ≤ f.2
  | [], _, _, hF => hF
  | l :: L, F, h, hF => by
    have hl := h l (by simp)
    have hf : F[l.edge]? = some F[l.edge] := List.getElem?_eq_getElem hl.1
    unfold payL
    refine payL_nn paid L _ (by rw [addF_len]; exact fun x hx => h x (by simp [hx])) (addF_nn hF hf _ ?_)
    have := frN_nn (hF _ (List.getElem_mem hl.1)) (if paid = true then 1 - l.side else l.side)
    omega
theorem payL_comm (paid : Bool) {n : Nat} (s : Nat) (v : Int) : ∀ (L : List Leg) (F : List (Int × Int)), LegsOk F.length L → n < F.length → payL paid (addF F n s v) L = addF (payL paid F L) n s v
  | [], _, _, _ => rfl
  | l :: L, F, h, hn => by
    have hl := h l (by simp)
    unfold payL
    rw [addF_comm hn hl.1, payL_comm paid s v L _ (by rw [addF_len]; exact fun x hx => h x (by simp [hx])) (by rw [addF_len]; exact hn)]
theorem payL_app (paid : Bool) : ∀ (L M : List Leg) (F : List (Int × Int)), payL paid F (L ++ M) = payL paid (payL paid F L) M
  | [], _, _ => rfl
  | l :: L, M, F => by simp only [List.cons_append, payL]; exact payL_app paid L M _
/-- What the side says. -/
theorem side_ok {ends : List (Nat × Nat)} {id who : Int} (h : (sideP24 ends id who).2 = 0) : ∃ (n s : Nat) (e : Nat × Nat), id = (n : Int) ∧ ends[n]? = some e ∧ s < 2 ∧ (sideP24 ends id who).1 = (s : Int) ∧ who = (((if s = 0 then e.1 else e.2) : Nat) : Int) := by
  rcases side_cases24 ends id who with ⟨h1, _⟩ | ⟨n, p, q, rfl, rfl, he, h1⟩ | ⟨n, p, q, rfl, rfl, he, _, h1⟩ | ⟨n, p, q, rfl, he, _, _, h1⟩
  · rw [h1] at h; cases h
  · exact ⟨n, 0, (p, q), rfl, he, by omega, by rw [h1]; rfl, rfl⟩
  · exact ⟨n, 1, (p, q), rfl, he, by omega, by rw [h1]; rfl, rfl⟩
  · rw [h1] at h; cases h
theorem begF_ok {ends : List (Nat × Nat)} : ∀ (E A : List Int) (F : List (Int × Int)) (fr : Int) (pv : Option Int), F.length = ends.length → (∀ f ∈ F, 0 ≤ f.1 ∧ 0 ≤ f.2) → (∀ a ∈ A, 0 ≤ a) →
    (begF ends F fr pv E A).2.1.length = F.length ∧ (∀ f ∈ (begF ends F fr pv E A).2.1, 0 ≤ f.1 ∧ 0 ≤ f.2) ∧ LegsOk F.length (begF ends F fr pv E A).2.2 ∧ (begF ends F fr pv E A).2.2.length ≤ E.length ∧ sumF (begF ends F fr pv E A).2.1 + legSum (begF ends F fr pv E A).2.2 = sumF F ∧
    payL false (begF ends F fr pv E A).2.1 (begF ends F fr pv E A).2.2 = F := by
  intro E
  induction E with
  | nil =>
    intro A F fr pv _ hF _
    have : begF ends F fr pv [] A = (0, F, []) := by cases A <;> rfl
    rw [this]
    exact ⟨rfl, hF, fun l hl => by simp at hl, Nat.le_refl _, by simp [legSum, sumI], rfl⟩
  | cons e E ih =>
    intro A F fr pv hlen hF hA
    cases A with
    | nil => exact ⟨rfl, hF, fun l hl => by simp [begF] at hl, by simp [begF], by simp [begF, legSum, sumI], rfl⟩
    | cons a A =>
      unfold begF
      split
      · exact ⟨rfl, hF, fun l hl => by simp at hl, by simp, by simp [legSum, sumI], rfl⟩
      · rename_i h1
        split
        · exact ⟨rfl, hF, fun l hl => by simp at hl, by simp, by simp [legSum, sumI], rfl⟩
        · split
          · exact ⟨rfl, hF, fun l hl => by simp at hl, by simp, by simp [legSum, sumI], rfl⟩
          · rename_i h2 h3
            obtain ⟨n, s, d, rfl, hd, hs, hsd, _⟩ := side_ok (ends := ends) (id := e) (who := fr) (by omega)
            rw [hsd] at h3 ⊢
            simp only [Int.toNat_natCast] at h3 ⊢
            have hn : n < F.length := by rw [hlen]; exact (List.getElem?_eq_some_iff.1 hd).1
            have hf : F[n]? = some F[n] := List.getElem?_eq_getElem hn
            rw [getD_of hf] at h3
            have ha := hA a (by simp)
            obtain ⟨i1, i2, i3, i4, i5, i6⟩ := ih A (addF F n s (-a)) (if (s : Int) = 0 then ((ends.getD n (0, 0)).2 : Int) else ((ends.getD n (0, 0)).1 : Int)) (some a) (by rw [addF_len]; exact hlen) (addF_nn hF hf s (by omega)) fun b hb => hA b (by simp [hb])
            rw [addF_len] at i1 i3
            refine ⟨i1, i2, fun l hl => ?_, by simp only [List.length_cons]; omega, ?_, ?_⟩
            · rcases List.mem_cons.1 hl with rfl | hl
              · exact ⟨hn, hs, ha⟩
              · exact i3 l hl
            · rw [addF_sum hn] at i5
              simp only [legSum, List.map_cons, sumI] at i5 ⊢; omega
            · unfold payL
              simp only [Bool.false_eq_true, if_false]
              rw [payL_comm false s a _ _ (by rw [i1]; exact i3) (by rw [i1]; exact hn), i6, addF_back hn]
/-- Each step keeps an ideal, and all that there is. -/
def Keeps (I J : Idl) : Prop := IOk J ∧ totI J = totI I ∧ J.has.length = I.has.length
theorem Keeps.refl {I : Idl} (ok : IOk I) : Keeps I I := ⟨ok, rfl, rfl⟩
theorem set_nn {l : List Int} {k : Nat} {b : Int} (h : ∀ a ∈ l, 0 ≤ a) (hb : 0 ≤ b) : ∀ a ∈ l.set k b, 0 ≤ a := by
  intro a ha
  rcases List.mem_or_eq_of_mem_set ha with ha | rfl
  · exact h a ha
  · exact hb
/-- Nodes and payments as before, other amounts. -/
theorem keeps_of {I : Idl} (ok : IOk I) {H : List Int} {F : List (Int × Int)} {l : List Pay} (hH : H.length = I.has.length) (hF : F.length = I.free.length) (hu : ∀ a ∈ H, 0 ≤ a) (fu : ∀ f ∈ F, 0 ≤ f.1 ∧ 0 ≤ f.2)
    (lg : ∀ p ∈ l, (p.state = 0 ∨ p.state = 1 ∨ p.state = 2) ∧ p.legs.length ≤ 7 ∧ LegsOk I.ends.length p.legs) (ids : (l.map Pay.id).Nodup) (ht : heldP l + sumI H + sumF F = totI I) : Keeps I ⟨H, I.ends, F, l⟩ :=
  ⟨⟨by rw [hH]; exact ok.hl, ok.el, by rw [hF]; exact ok.fl, fun e he => by rw [hH]; exact ok.en e he, hu, fu, lg, ids, by show heldP l + sumI H + sumF F < _; rw [ht]; exact ok.tot⟩, ht, hH⟩
theorem open_keeps {I : Idl} (ok : IOk I) {a b p q : Int} (hp : 0 ≤ p) (hq : 0 ≤ q) : Keeps I (openP I a b p q).1 := by
  by_cases h1 : a < 0 ∨ (I.has.length : Int) ≤ a ∨ b < 0 ∨ (I.has.length : Int) ≤ b ∨ a = b
  · rw [open_arg h1]; exact .refl ok
  · by_cases h2 : 16 ≤ I.ends.length
    · rw [open_full h1 h2]; exact .refl ok
    · obtain ⟨an, rfl⟩ : ∃ n : Nat, a = (n : Int) := ⟨a.toNat, by omega⟩
      obtain ⟨bn, rfl⟩ : ∃ n : Nat, b = (n : Int) := ⟨b.toNat, by omega⟩
      have ha : I.has[an]? = some (I.has[an]'(by omega)) := List.getElem?_eq_getElem _
      have hb : I.has[bn]? = some (I.has[bn]'(by omega)) := List.getElem?_eq_getElem _
      generalize I.has[an]'(by omega) = x at ha
      generalize I.has[bn]'(by omega) = y at hb
      by_cases h3 : x < p ∨ y < q
      · rw [open_under ha hb (by omega) h2 h3]; exact .refl ok
      · rw [open_ok ha hb (by omega) h2 h3]
        have hx : (I.has.set an (x - p))[bn]? = some y := by rw [List.getElem?_set_ne (by omega)]; exact hb
        have ht : heldP I.pays + sumI ((I.has.set an (x - p)).set bn (y - q)) + sumF (I.free ++ [(p, q)]) = totI I := by
          rw [sumI_set _ _ _ _ hx, sumI_set _ _ _ _ ha, sumF_app]
          unfold totI; dsimp only; omega
        refine ⟨⟨by simp; exact ok.hl, by simp; omega, by simp [ok.fl], fun e he => ?_, set_nn (set_nn ok.hu (by omega)) (by omega), fun f hf => ?_, fun P hP => ?_, ok.ids, by show heldP I.pays + _ + _ < _; rw [ht]; exact ok.tot⟩, ht, by simp⟩
        · simp only [List.length_set]
          rcases List.mem_append.1 he with he | he
          · exact ok.en e he
          · simp at he; subst he; dsimp only; omega
        · rcases List.mem_append.1 hf with hf | hf
          · exact ok.fu f hf
          · simp at hf; subst hf; exact ⟨hp, hq⟩
        · obtain ⟨k1, k2, k3⟩ := ok.lg P hP
          exact ⟨k1, k2, fun l hl => by obtain ⟨m1, m2, m3⟩ := k3 l hl; simp only [List.length_append, List.length_cons, List.length_nil]; exact ⟨by omega, m2, m3⟩⟩
theorem end_in {I : Idl} (ok : IOk I) {n s : Nat} {e : Nat × Nat} (he : I.ends[n]? = some e) : (if s = 0 then e.1 else e.2) < I.has.length ∧ n < I.free.length := by
  have h1 := ok.en e (List.mem_of_getElem? he)
  have h2 := (List.getElem?_eq_some_iff.1 he).1
  rw [ok.fl]
  refine ⟨?_, h2⟩
  split
  · exact h1.1
  · exact h1.2.1
theorem put_keeps {I : Idl} (ok : IOk I) {id who am : Int} (h0 : 0 ≤ am) : Keeps I (putP I id who am).1 := by
  unfold putP
  split
  · exact .refl ok
  · rename_i h1
    split
    · exact .refl ok
    · split
      · exact .refl ok
      · rename_i h2 h3
        obtain ⟨n, s, e, rfl, he, hs, hsd, hw⟩ := side_ok (ends := I.ends) (id := id) (who := who) (by omega)
        rw [hsd]
        subst hw
        obtain ⟨k1, k2⟩ := end_in ok (s := s) he
        simp only [Int.toNat_natCast] at h3 ⊢
        generalize (if s = 0 then e.1 else e.2) = u at k1 h3 ⊢
        have hh : I.has[u]? = some I.has[u] := List.getElem?_eq_getElem k1
        have hf : I.free[n]? = some I.free[n] := List.getElem?_eq_getElem k2
        rw [getD_of hh] at h3 ⊢
        have hfn := frN_nn (ok.fu _ (List.getElem_mem k2)) s
        refine keeps_of ok (by simp) (by rw [addF_len]) (set_nn ok.hu (by omega)) (addF_nn ok.fu hf s (by omega)) ok.lg ok.ids ?_
        rw [sumI_set _ _ _ _ hh, addF_sum k2]
        unfold totI; omega
theorem spend_ok {I : Idl} (ok : IOk I) {id who am : Int} (h : (spendP I id who am).2 = 0) : ∃ (n s : Nat) (e : Nat × Nat) (f : Int × Int), id = (n : Int) ∧ I.ends[n]? = some e ∧ s < 2 ∧ (spendP I id who am).1 = (s : Int) ∧ who = (((if s = 0 then e.1 else e.2) : Nat) : Int) ∧ I.free[n]? = some f ∧ am ≤ frN f s ∧ am ≠ 0 := by
  unfold spendP at h ⊢
  split at h
  · rename_i h1; exact absurd h h1
  · rename_i h1
    rw [if_neg h1]
    split at h
    · cases h
    · rename_i h2
      rw [if_neg h2]
      split at h
      · cases h
      · rename_i h3
        rw [if_neg h3]
        obtain ⟨n, s, e, rfl, he, hs, hsd, hw⟩ := side_ok (ends := I.ends) (id := id) (who := who) (by omega)
        rw [hsd] at h3 ⊢
        obtain ⟨k1, k2⟩ := end_in ok (s := s) he
        have hf : I.free[n]? = some I.free[n] := List.getElem?_eq_getElem k2
        simp only [Int.toNat_natCast] at h3
        rw [getD_of hf] at h3
        exact ⟨n, s, e, _, rfl, he, hs, rfl, hw, hf, by omega, h2⟩
theorem take_keeps {I : Idl} (ok : IOk I) {id who am : Int} (h0 : 0 ≤ am) : Keeps I (takeP I id who am).1 := by
  unfold takeP
  split
  · exact .refl ok
  · rename_i h1
    obtain ⟨n, s, e, f, rfl, he, hs, hsd, hw, hf, hle, hne⟩ := spend_ok ok (id := id) (who := who) (am := am) (by omega)
    rw [hsd]
    subst hw
    obtain ⟨k1, k2⟩ := end_in ok (s := s) he
    simp only [Int.toNat_natCast]
    generalize (if s = 0 then e.1 else e.2) = u at k1 ⊢
    have hh : I.has[u]? = some I.has[u] := List.getElem?_eq_getElem k1
    rw [getD_of hh]
    have hx := ok.hu _ (List.getElem_mem k1)
    refine keeps_of ok (by simp) (by rw [addF_len]) (set_nn ok.hu (by omega)) (addF_nn ok.fu hf s (by omega)) ok.lg ok.ids ?_
    rw [sumI_set _ _ _ _ hh, addF_sum k2]
    unfold totI; omega
theorem move_keeps {I : Idl} (ok : IOk I) {id who am : Int} (h0 : 0 ≤ am) : Keeps I (moveP I id who am).1 := by
  unfold moveP
  split
  · exact .refl ok
  · rename_i h1
    obtain ⟨n, s, e, f, rfl, he, hs, hsd, hw, hf, hle, hne⟩ := spend_ok ok (id := id) (who := who) (am := am) (by omega)
    rw [hsd]
    obtain ⟨k1, k2⟩ := end_in ok (s := s) he
    simp only [Int.toNat_natCast]
    have h1 := addF_nn ok.fu hf s (v := -am) (by omega)
    have h2 := addF_get hf s (-am)
    have h3 := frN_nn (h1 _ (List.mem_of_getElem? h2)) (1 - s)
    refine keeps_of ok rfl (by rw [addF_len, addF_len]) ok.hu (addF_nn h1 h2 (1 - s) (by omega)) ok.lg ok.ids ?_
    rw [addF_sum (by rw [addF_len]; exact k2), addF_sum k2]
    unfold totI; omega
theorem find_none {l : List Pay} {id : Int} (h : findP l id = none) : ∀ p ∈ l, p.id ≠ id := fun p hp he => by
  have := List.findIdx?_eq_none_iff.1 h p hp
  simp [he] at this
theorem find_some {l : List Pay} {id : Int} {i : Nat} (h : findP l id = some i) : ∃ p, l[i]? = some p ∧ p.id = id := by
  obtain ⟨hi, h1, _⟩ := List.findIdx?_eq_some_iff_getElem.1 h
  exact ⟨l[i], List.getElem?_eq_getElem hi, by simpa using h1⟩
theorem beg_keeps {I : Idl} (ok : IOk I) {id fr : Int} {E A : List Int} (hA : ∀ a ∈ A, 0 ≤ a) : Keeps I (begP I id fr E A).1 := by
  unfold begP
  split
  · exact .refl ok
  · rename_i h1
    split
    · exact .refl ok
    · rename_i h2
      split
      · exact .refl ok
      · obtain ⟨i1, i2, i3, i4, i5, _⟩ := begF_ok E A I.free fr none ok.fl ok.fu hA
        have h2 : findP I.pays id = none := by
          cases hq : findP I.pays id with
          | none => rfl
          | some i => exact absurd (by rw [hq]; simp) h2
        have hid := find_none h2
        dsimp only
        refine keeps_of ok rfl i1 ok.hu i2 (fun p hp => ?_) ?_ ?_
        · rcases List.mem_append.1 hp with hp | hp
          · exact ok.lg p hp
          · simp at hp; subst hp
            exact ⟨.inl rfl, by dsimp only; omega, by rw [ok.fl] at i3; exact i3⟩
        · rw [List.map_append]
          refine List.nodup_append.2 ⟨ok.ids, by simp, fun a ha b hb => ?_⟩
          simp at hb; subst hb
          rw [List.mem_map] at ha
          obtain ⟨p, hp, rfl⟩ := ha
          exact hid p hp
        · unfold heldP totI
          rw [List.map_append, sumI_app]
          simp only [List.map_cons, List.map_nil, sumI, heldOf, if_true]
          have e2 : heldP I.pays = sumI (I.pays.map heldOf) := rfl
          rw [← e2]; omega
theorem end_keeps {I : Idl} (ok : IOk I) {id : Int} {paid : Bool} : Keeps I (endP I id paid).1 := by
  unfold endP
  split
  · exact .refl ok
  · rename_i i hi
    obtain ⟨p, hp, hpid⟩ := find_some hi
    rw [hp]
    dsimp only
    split
    · exact .refl ok
    · rename_i hs
      have hs : p.state = 0 := by omega
      obtain ⟨k1, k2, k3⟩ := ok.lg p (List.mem_of_getElem? hp)
      have k3 : LegsOk I.free.length p.legs := by rw [ok.fl]; exact k3
      dsimp only
      refine keeps_of ok rfl (payL_len paid _ _) ok.hu (payL_nn paid _ _ k3 ok.fu) (fun q hq => ?_) ?_ ?_
      · rcases List.mem_or_eq_of_mem_set hq with hq | rfl
        · exact ok.lg q hq
        · dsimp only
          exact ⟨by split <;> simp, k2, by rw [← ok.fl]; exact k3⟩
      · rw [List.map_set]
        have h9 : (I.pays.map Pay.id)[i]? = some p.id := by simp [hp]
        have : (I.pays.map Pay.id).set i p.id = I.pays.map Pay.id := set_same24 h9
        rw [this]; exact ok.ids
      · unfold heldP
        rw [List.map_set, sumI_set _ i (heldOf p) _ (by simp [hp]), payL_sum paid _ _ k3]
        have e1 : heldOf p = legSum p.legs := by unfold heldOf; rw [if_pos hs]
        have e2 : heldOf ⟨p.id, if paid = true then 1 else 2, p.legs⟩ = 0 := by unfold heldOf; exact if_neg (by show ¬ (if paid = true then (1 : Int) else 2) = 0; cases paid <;> decide)
        rw [e1, e2]
        unfold totI heldP; omega
theorem close_keeps {I : Idl} (ok : IOk I) {id : Int} : Keeps I (closeP I id).1 := by
  unfold closeP
  split
  · exact .refl ok
  · rename_i h1
    split
    · exact .refl ok
    · obtain ⟨n, rfl⟩ : ∃ n : Nat, id = (n : Int) := ⟨id.toNat, by omega⟩
      rw [Int.toNat_natCast]
      have hn : n < I.ends.length := by omega
      have he : I.ends[n]? = some I.ends[n] := List.getElem?_eq_getElem hn
      have hf : I.free[n]? = some (I.free[n]'(by rw [ok.fl]; exact hn)) := List.getElem?_eq_getElem _
      generalize I.ends[n] = e at he
      generalize I.free[n]'(by rw [ok.fl]; exact hn) = f at hf
      rw [getD_of he, getD_of hf]
      obtain ⟨e1, e2, e3⟩ := ok.en e (List.mem_of_getElem? he)
      have h1 : I.has[e.1]? = some I.has[e.1] := List.getElem?_eq_getElem e1
      have h2 : I.has[e.2]? = some I.has[e.2] := List.getElem?_eq_getElem e2
      have u1 := ok.hu _ (List.getElem_mem e1)
      have u2 := ok.hu _ (List.getElem_mem e2)
      have uf := ok.fu f (List.mem_of_getElem? hf)
      dsimp only
      rw [getD_of h1, getD_of h2]
      refine keeps_of ok (by simp) (by simp) (set_nn (set_nn ok.hu (by omega)) (by omega)) (fun g hg => ?_) ok.lg ok.ids ?_
      · rcases List.mem_or_eq_of_mem_set hg with hg | rfl
        · exact ok.fu g hg
        · exact ⟨Int.le_refl _, Int.le_refl _⟩
      · rw [sumI_set _ e.2 I.has[e.2] _ (by rw [List.getElem?_set_ne e3]; exact h2), sumI_set _ _ _ _ h1, sumF_set hf]
        unfold totI; dsimp only; omega
end Go.Proofs.Ytecgpkjigbhneaa
