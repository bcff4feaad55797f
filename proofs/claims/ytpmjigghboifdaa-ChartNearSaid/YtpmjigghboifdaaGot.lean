/- 'for _, s := range l { in = append(in, To(s)) }': the list that a law gathers, and what is known beside it. -/
import Derived.Test.YtpmjigghboifdaaKnown
import Derived.Test.YtpmjigghboifdaaSide
import Derived.Test.YtpmjigghboifdaaRef2
import Derived.Test.YtpmjigghboifdaaRefNear
import Derived.OwnWalk
import Derived.Laws.AppendOwn
namespace Go.Proofs.Ytpmjigghboifdaa
open Go.RowKit Fl

/-- The cells of a list of spots. -/
def flat (L : List (Int × Int)) : List Value := L.flatMap fun p => [.int .i64 p.1, .int .i64 p.2]
theorem flat_append (L M : List (Int × Int)) : flat (L ++ M) = flat L ++ flat M := by simp [flat]
theorem flat_get : ∀ (L : List (Int × Int)) (i : Nat) (p : Int × Int), L[i]? = some p → (flat L)[i * 2]? = some (.int .i64 p.1) ∧ (flat L)[i * 2 + 1]? = some (.int .i64 p.2)
  | [], i, p, h => by simp at h
  | q :: L, 0, p, h => by simp at h; subst h; simp [flat]
  | q :: L, i + 1, p, h => by
    have := flat_get L i p (by simpa using h)
    have e : flat (q :: L) = [.int .i64 q.1, .int .i64 q.2] ++ flat L := by simp [flat]
    rw [e, show (i + 1) * 2 = i * 2 + 2 from by omega, show i * 2 + 2 + 1 = (i * 2 + 1) + 2 from by omega]
    simpa using this

theorem own_below {B : Nat} {e : TypeId} {k : Nat} {v : Value} {n : Nat} {xs : List Value} {w w' : World} (h : w.ownsRow B e k v n xs) (hb : Below w.heap.size w w') : w'.ownsRow B e k v n xs :=
  h.kept (row := none) ⟨hb.os, hb.tape, hb.output, hb.size, fun j hj _ => hb.block j hj⟩ (by cases hv : v.ownBlock <;> simp)

/-- What has been gathered of the first k spots, and what is known beside it. -/
def Got (w0 : World) (Ks : List (Nat × Int × Int)) (B : Nat) (L : List (Int × Int)) (v : Value) (k : Nat) (w : World) : Prop :=
  Known w0 Ks w ∧ w.ownsRow B 23 2 v k (flat (L.take k)) ∧ B ≤ w.heap.size
theorem Got.keep {w0 w w' : World} {Ks : List (Nat × Int × Int)} {B : Nat} {L : List (Int × Int)} {v : Value} {k : Nat} (hb : Below w.heap.size w w') (h : Got w0 Ks B L v k w) : Got w0 Ks B L v k w' :=
  ⟨h.1.keep hb, own_below h.2.1 hb, Nat.le_trans h.2.2 hb.size⟩
theorem Got.alloc {w0 w : World} {Ks : List (Nat × Int × Int)} {B : Nat} {L : List (Int × Int)} {v : Value} {k : Nat} (h : Got w0 Ks B L v k w) (o : Obj) : Got w0 Ks B L v k (w.alloc o) :=
  h.keep ((Below.refl _ _).alloc (Nat.le_refl _) o)
theorem Known.grown {w0 w w' : World} {Ks : List (Nat × Int × Int)} {B : Nat} {row : Option Nat} (h : Known w0 Ks w) (hK : ∀ e ∈ Ks, e.1 < B) (h0 : w0.heap.size ≤ B) (hB : B ≤ w.heap.size) (hg : w.grownBy w' row) (hr : ∀ k, row = some k → B ≤ k) : Known w0 Ks w' := by
  have hb : Below B w w' := (Below.refl _ _).grown hg hB hr
  refine ⟨fun e he => ?_, h.2.trans (hb.mono h0)⟩
  obtain ⟨a0, a1, a2, a3, a4⟩ := h.1 e he
  exact ⟨(hb.cell (p := ⟨e.1, 0, none⟩) (hK e he)).trans a0, (hb.cell (p := ⟨e.1, 1, none⟩) (hK e he)).trans a1, Nat.lt_of_lt_of_le a2 hb.size, a3, fun i => (hb.frozen (p := ⟨e.1, i, none⟩) (hK e he)).trans (a4 i)⟩
theorem Got.step {w0 w w' : World} {Ks : List (Nat × Int × Int)} {B : Nat} {L : List (Int × Int)} {v v' : Value} {k : Nat} (h : Got w0 Ks B L v k w) (hK : ∀ e ∈ Ks, e.1 < B) (h0 : w0.heap.size ≤ B) (hk : k < L.length)
    (hown : w'.ownsRow B 23 2 v' (k + 1) (flat (L.take k) ++ [.int .i64 L[k].1, .int .i64 L[k].2])) (hg : w.grownBy w' v.ownBlock) : Got w0 Ks B L v' (k + 1) w' := by
  refine ⟨h.1.grown hK h0 h.2.2 hg fun j hj => (h.2.1.lt j hj).1, ?_, Nat.le_trans h.2.2 hg.size⟩
  have e : flat (L.take (k + 1)) = flat (L.take k) ++ [.int .i64 L[k].1, .int .i64 L[k].2] := by
    rw [List.take_succ_eq_append_getElem hk, flat_append]; rfl
  rw [e]; exact hown
theorem Got.row {w0 w : World} {Ks : List (Nat × Int × Int)} {B : Nat} {L : List (Int × Int)} {v : Value} {k : Nat} (h : Got w0 Ks B L v k w) (hk : k = L.length) : ∃ A c, v = .slice A L.length c ∧ RowOf w A L := by
  subst hk
  rcases h.2.1.2 with ⟨h1, h2⟩ | ⟨g, cap, cur, h1, _, h2, _⟩
  · exact ⟨none, 0, by rw [h1, h2], fun h3 => absurd h3 (by omega)⟩
  · refine ⟨some ⟨g, 0, none⟩, cap, h1, fun _ => ⟨g, 0, rfl, heap_lt h2, fun i p hp => ?_⟩⟩
    have hc := h.2.1.cells (g := g) (by rw [h1]; rfl)
    rw [List.take_length] at hc
    obtain ⟨e0, e1⟩ := flat_get L i p hp
    have ha : ∀ n, (⟨g, 0, none⟩ : Addr).add n = ⟨g, 0 + n, none⟩ := fun n => by unfold Addr.add; split <;> simp_all
    have h0 := hc _ _ e0
    have h1 := hc _ _ e1
    rw [ha] at h0 h1
    exact ⟨h0, h1⟩
theorem RowOf.keep {w w' : World} {A : Option Addr} {L : List (Int × Int)} (hb : Below w.heap.size w w') (h : RowOf w A L) : RowOf w' A L := fun h0 => by
  obtain ⟨b, off, rfl, hs⟩ := h h0
  exact ⟨b, off, rfl, hs.below hs.1 hb⟩
theorem RowOf.below {w w' : World} {A : Option Addr} {L : List (Int × Int)} (h : RowOf w A L) (hb : Below w.heap.size w w') : RowOf w' A L := h.keep hb

theorem side_any (a b c d e f : Int) (w : World) : Calls Try.prog 26 #[.agg #[.int .i64 a, .int .i64 b], .agg #[.int .i64 c, .int .i64 d], .agg #[.int .i64 e, .int .i64 f]] w fun e' w' =>
    e' = .returned (.int .i64 (sideI a b c d e f)) ∧ Below w.heap.size w w' := by
  unfold sideI
  rcases h : (inB a b && inB c d && inB e f) with _ | _
  · exact side_no a b c d e f h w
  · rw [if_pos rfl]
    rw [Bool.and_eq_true, Bool.and_eq_true] at h
    exact side_yes a b c d e f h.1.1 h.1.2 h.2 w
theorem info_spot : (Try.prog.info? 23).map (fun i => (i.zero, i.size, i.bytes)) = some (some (.agg #[.int .i64 0, .int .i64 0]), 2, 16) := by kernel_rfl
end Go.Proofs.Ytpmjigghboifdaa
