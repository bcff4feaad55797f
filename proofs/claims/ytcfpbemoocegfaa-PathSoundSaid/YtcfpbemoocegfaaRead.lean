/- Arguments as they read: numbers, texts, structs, arrays of two, slices of any of these, however nested. Plain: over any program. -/
import Derived.Test.YtcfpbemoocegfaaMoves
import Derived.Deep.Slices
import Derived.SizedLaws
import Derived.ChangeSame
import Derived.OpenShut
namespace Go.Proofs.Ytcfpbemoocegfaa
set_option linter.unusedVariables false
set_option linter.unusedSimpArgs false
set_option linter.unnecessarySimpa false
open Go Go.ChangeShapes Go.WideShapes Go.Deep Go.RowKit

abbrev Rd (α : Type) := World → List Value → α → Prop
/-- Whatever reads at type t, in k cells, reads by r. -/
def Reads (P : Program) (t : TypeId) (k : Nat) {α : Type} (r : Rd α) : Prop :=
  P.cellsOf t = k ∧ ∀ (H : Type) (enc : TypeId × Value → H) (w : World) (base : Nat) (spare : Nat → Bool) (held : Bool) (fuel : Nat) (cs : List Value) (x : DataW H × List MemPlace),
    DataW.trod enc P w base spare held fuel t cs = some x → (∀ n ∈ x.1.weights P t, n ≤ reachBytes) → cs.length = k ∧ ∃ a, r w cs a

def rInt (k : IntKind) : Rd Int := fun _ cs n => cs = [.int k n] ∧ (Lit.int k n).wf = true
def rBool : Rd Bool := fun _ cs b => cs = [.bool b]
def rStr : Rd ByteArray := fun _ cs s => cs = [.string s] ∧ s.size ≤ 140737488355328
def rNil : Rd Unit := fun _ cs _ => cs = []
def rSeq (k : Nat) {α β : Type} (r : Rd α) (s : Rd β) : Rd (α × β) := fun w cs p => r w (cs.take k) p.1 ∧ s w (cs.drop k) p.2
/-- A slice: its address, capacity, elements. -/
def rSlice (k bytes : Nat) {α : Type} (r : Rd α) : Rd (Option Addr × Nat × List α) := fun w cs p =>
  cs = [.slice p.1 p.2.2.length p.2.1] ∧ (p.1 = none → p.2.2.length = 0 ∧ p.2.1 = 0) ∧ p.2.2.length * bytes ≤ 140737488355328 ∧
    ∃ cells : List Value, cells.length = p.2.2.length * k ∧ SrcOf w p.1 cells ∧ ∀ (i : Nat) (x : α), p.2.2[i]? = some x → r w ((cells.drop (i * k)).take k) x

section
variable {P : Program} {t e : TypeId}
theorem reads_int {k : IntKind} (ht : P.underlying t = some (.int k)) (hc : P.cellsOf t = 1) : Reads P t 1 (rInt k) := ⟨hc, fun H enc w base spare held fuel cs x h _ => by
  obtain ⟨n, rfl, _, hw⟩ := DataW.trod_int ht h
  exact ⟨rfl, n, rfl, hw⟩⟩
theorem reads_bool (ht : P.underlying t = some .bool) (hc : P.cellsOf t = 1) : Reads P t 1 rBool := ⟨hc, fun H enc w base spare held fuel cs x h _ => by
  obtain ⟨b, rfl, _⟩ := DataW.trod_bool ht h
  exact ⟨rfl, b, rfl⟩⟩
theorem reads_str (ht : P.underlying t = some .string) (hc : P.cellsOf t = 1) : Reads P t 1 rStr := ⟨hc, fun H enc w base spare held fuel cs x h hw => by
  obtain ⟨s, rfl, rfl, hs⟩ := DataW.trod_string ht h
  refine ⟨rfl, s, rfl, ?_⟩
  have h1 := hw s.data.toList.length (by simp only [DataW.weights, List.mem_singleton])
  have h2 := reachBytes_lt
  have h3 : s.data.toList.length = s.size := by simp only [ByteArray.size, Array.length_toList]
  omega⟩
theorem reads_arr2 {k : Nat} {α : Type} {r : Rd α} (ht : P.underlying t = some (.array 2 e)) (hc : P.cellsOf t = k + k) (he : Reads P e k r) : Reads P t (k + k) (rSeq k r r) := ⟨hc, fun H enc w base spare held fuel cs x h hw => by
  obtain ⟨xs, m, _, rfl, hl, hxl, hx⟩ := DataW.trod_array ht h
  rw [hc] at hl
  match xs, hxl with
  | [y0, y1], _ =>
    have h0 := hx 0 (by omega)
    have h1 := hx 1 (by omega)
    rw [he.1] at h0 h1
    simp only [Nat.zero_mul, Nat.one_mul, List.drop_zero, List.getElem?_cons_zero, List.getElem?_cons_succ] at h0 h1
    obtain ⟨_, a, ha⟩ := he.2 H enc w base spare held m _ _ h0 (fun n hn => hw n (by simp only [DataW.weights, ht, DataW.weightsAll, List.map_cons, List.map_nil, List.mem_append]; exact .inl hn))
    obtain ⟨_, b, hb⟩ := he.2 H enc w base spare held m _ _ h1 (fun n hn => hw n (by simp only [DataW.weights, ht, DataW.weightsAll, List.map_cons, List.map_nil, List.mem_append]; exact .inr (.inl hn)))
    refine ⟨hl, (a, b), ha, ?_⟩
    have e : (cs.drop k).take k = cs.drop k := List.take_of_length_le (by simp; omega)
    show r w (cs.drop k) b
    rw [← e]; exact hb⟩
/-- Fields, one behind the other. -/
inductive FieldsRead (P : Program) : List Field → Nat → Nat → {α : Type} → Rd α → Prop
  | nil (off : Nat) : FieldsRead P [] off 0 rNil
  | cons {f : Field} {fs : List Field} {off k1 k2 : Nat} {α β : Type} {r : Rd α} {s : Rd β} (ho : f.offset = off) (h1 : Reads P f.type k1 r) (h2 : FieldsRead P fs (off + k1) k2 s) : FieldsRead P (f :: fs) off (k1 + k2) (rSeq k1 r s)
theorem fields_read {H : Type} {enc : TypeId × Value → H} {w : World} {base : Nat} {spare : Nat → Bool} {held : Bool} {n : Nat} {cs : List Value} : ∀ {fs : List Field} {off k : Nat} {α : Type} {r : Rd α}, FieldsRead P fs off k r →
    ∀ (xs : List (DataW H × List MemPlace)), xs.length = fs.length → (∀ (i : Nat) (f : Field), fs[i]? = some f → DataW.trod enc P w base spare held n f.type ((cs.drop f.offset).take (P.cellsOf f.type)) = xs[i]?) →
      (∀ m ∈ DataW.weightsEach P (fs.map (·.type)) (xs.map (·.1)), m ≤ reachBytes) → cs.length = off + k → ∃ a, r w (cs.drop off) a
  | _, off, _, _, _, .nil _, xs, _, _, _, hl => ⟨(), by show cs.drop off = []; exact List.drop_of_length_le (by omega)⟩
  | _, off, _, _, _, @FieldsRead.cons _ f fs _ k1 k2 α β r s ho h1 h2, xs, hxl, hx, hw, hl => by
    match xs, hxl with
    | y :: ys, hxl =>
      have h3 := hx 0 f rfl
      rw [ho, h1.1] at h3
      obtain ⟨_, a, ha⟩ := h1.2 H enc w base spare held n _ y (by simpa using h3) (fun m hm => hw m (by simp [DataW.weightsEach, hm]))
      obtain ⟨b, hb⟩ := fields_read h2 ys (by simpa using hxl) (fun i g hg => by simpa using hx (i + 1) g (by simpa using hg)) (fun m hm => hw m (by simp only [List.map_cons, DataW.weightsEach, List.mem_append]; exact .inr hm)) (by omega)
      exact ⟨(a, b), ha, by show s w ((cs.drop off).drop k1) b; rw [List.drop_drop]; exact hb⟩
theorem reads_struct {fs : Array Field} {k : Nat} {α : Type} {r : Rd α} (ht : P.underlying t = some (.struct fs)) (hc : P.cellsOf t = k) (hf : FieldsRead P fs.toList 0 k r) : Reads P t k r := ⟨hc, fun H enc w base spare held fuel cs x h hw => by
  obtain ⟨xs, n, _, rfl, hl, hxl, hx⟩ := DataW.trod_struct ht h
  rw [hc] at hl
  obtain ⟨a, ha⟩ := fields_read hf xs (by simpa using hxl) (fun i f hi => hx i f (by simpa using hi)) (fun m hm => hw m (by simp only [DataW.weights, ht]; exact hm)) (by omega)
  exact ⟨hl, a, by simpa using ha⟩⟩
theorem add_plus (a : Addr) (i j : Nat) : (a.add i).add j = a.add (i + j) := add_add a i j
theorem choose_upto {n : Nat} {α : Nat → Type} {p : (i : Nat) → α i → Prop} (h : ∀ i, i < n → ∃ x, p i x) (d : (i : Nat) → α i) : ∃ f : (i : Nat) → α i, ∀ i, i < n → p i (f i) :=
  ⟨fun i => if hi : i < n then (h i hi).choose else d i, fun i hi => by dsimp only; rw [dif_pos hi]; exact (h i hi).choose_spec⟩
theorem flat_at {k : Nat} : ∀ (n : Nat) (f : Nat → List Value), (∀ i, i < n → (f i).length = k) → ((List.range n).flatMap f).length = n * k ∧
    ∀ i, i < n → ((((List.range n).flatMap f).drop (i * k)).take k = f i)
  | 0, f, _ => ⟨by simp, fun i hi => by omega⟩
  | n + 1, f, h => by
    obtain ⟨h1, h2⟩ := flat_at n f fun i hi => h i (by omega)
    rw [List.range_succ, List.flatMap_append]
    simp only [List.flatMap_cons, List.flatMap_nil, List.append_nil]
    refine ⟨by rw [List.length_append, h1, h n (by omega)]; rw [Nat.add_mul]; omega, fun i hi => ?_⟩
    have hn := h n (by omega)
    by_cases hin : i = n
    · subst hin
      rw [List.drop_append_of_le_length (by omega), List.drop_of_length_le (by omega)]
      simp only [List.nil_append]
      exact List.take_of_length_le (by omega)
    · have hi' : i < n := by omega
      have hle : i * k + k ≤ n * k := by
        have : (i + 1) * k ≤ n * k := Nat.mul_le_mul_right k (by omega)
        rw [Nat.add_mul] at this; omega
      rw [List.drop_append_of_le_length (by omega), List.take_append_of_le_length (by rw [List.length_drop, h1]; omega)]
      exact h2 i hi'
theorem reads_slice {k bytes : Nat} {α : Type} {r : Rd α} (ht : P.underlying t = some (.slice e)) (hc : P.cellsOf t = 1) (hb : P.bytesOf e = bytes) (hk : 0 < k) (he : Reads P e k r) : Reads P t 1 (rSlice k bytes r) := ⟨hc, fun H enc w base spare held fuel cs x h hw => by
  rcases open_slice ht h with ⟨rfl, rfl⟩ | ⟨a, len, cap, m, n, D, Pl, rfl, _, hl, hm, hmm, rfl, hi⟩
  · exact ⟨rfl, (none, 0, []), rfl, fun _ => ⟨rfl, rfl⟩, by simp, [], by simp, (fun ad had => by cases had), (fun i x hx => by simp at hx)⟩
  · have hlm : len ≤ m := by rw [hmm]; split <;> omega
    have each : ∀ i, i < len → ∃ q : List Value × Option α, (∃ x, q.2 = some x ∧ r w q.1 x) ∧ q.1.length = k ∧ ∀ j u, q.1[j]? = some u → w.cell? (a.add (i * k + j)) = some u := by
      intro i hil
      obtain ⟨cs', h1, h2⟩ := hi i (by omega)
      rw [he.1] at h1
      obtain ⟨_, hcl, hat⟩ := World.cells?_some h1
      obtain ⟨h3, x, hx⟩ := he.2 H enc w base spare held n cs' _ h2 (fun q hq => hw q (by
        simp only [DataW.weights, ht, List.mem_cons, List.mem_append]
        refine .inr (.inl ?_)
        have key : ∀ (l : List (DataW H)) (d : DataW H), d ∈ l → q ∈ d.weights P e → q ∈ DataW.weightsAll P e l := by
          intro l
          induction l with
          | nil => intro d hd; cases hd
          | cons y l ih =>
            intro d hd hq
            simp only [DataW.weightsAll, List.mem_append]
            rcases List.mem_cons.1 hd with rfl | hd
            · exact .inl hq
            · exact .inr (ih d hd hq)
        exact key _ (D i) (List.mem_map.2 ⟨i, by simpa using hil, rfl⟩) hq))
      refine ⟨(cs', some x), ⟨x, rfl, hx⟩, h3, fun j u hj => ?_⟩
      have hjl : j < k := by have := (List.getElem?_eq_some_iff.1 hj).1; dsimp only at this; omega
      have := hat j hjl
      rw [add_plus] at this
      rw [this]; exact hj
    obtain ⟨q, hq⟩ := choose_upto each (fun _ => ([], none))
    have hx0 : ∀ i, i < len → ∃ x, (q i).2 = some x ∧ r w (q i).1 x := fun i hil => (hq i hil).1
    obtain ⟨f1, f2⟩ := flat_at (k := k) len (fun i => (q i).1) fun i hil => (hq i hil).2.1
    have hlen : ((List.range len).filterMap fun i => (q i).2).length = len := by
      have key : ∀ n, n ≤ len → ((List.range n).filterMap fun i => (q i).2).length = n := by
        intro n
        induction n with
        | zero => intro _; rfl
        | succ n ih =>
          intro hn
          obtain ⟨x, hx, _⟩ := hx0 n (by omega)
          rw [List.range_succ, List.filterMap_append, List.length_append, ih (by omega)]
          simp [hx]
      exact key len (Nat.le_refl _)
    have hget : ∀ i, i < len → ((List.range len).filterMap fun i => (q i).2)[i]? = (q i).2 := by
      have key : ∀ n, n ≤ len → ((List.range n).filterMap fun i => (q i).2).length = n ∧ ∀ i, i < n → ((List.range n).filterMap fun i => (q i).2)[i]? = (q i).2 := by
        intro n
        induction n with
        | zero => intro _; exact ⟨rfl, fun i hi => by omega⟩
        | succ n ih =>
          intro hn
          obtain ⟨x, hx, _⟩ := hx0 n (by omega)
          obtain ⟨i1, i2⟩ := ih (by omega)
          rw [List.range_succ, List.filterMap_append]
          refine ⟨by rw [List.length_append, i1]; simp [hx], fun i hi => ?_⟩
          by_cases hin : i = n
          · subst hin
            rw [List.getElem?_append_right (by omega), i1]
            simp [hx]
          · rw [List.getElem?_append_left (by omega)]
            exact i2 i (by omega)
      exact (key len (Nat.le_refl _)).2
    refine ⟨rfl, (some a, cap, (List.range len).filterMap fun i => (q i).2), by simp only [hlen], (fun h => by cases h), ?_, (List.range len).flatMap fun i => (q i).1, by simp only [hlen]; exact f1, ?_, ?_⟩
    · simp only [hlen]
      have h1 := hw _ (by simp only [DataW.weights, ht, List.mem_cons]; exact .inl rfl)
      rw [hb] at h1
      have h2 := reachBytes_lt
      have h3 : len * bytes ≤ (((List.range len).map D).length + ((List.range (m - len)).map fun j => D (len + j)).length) * bytes := Nat.mul_le_mul_right _ (by simp)
      omega
    · rintro ad rfl' j u hj
      cases rfl'
      have hjl : j < len * k := by have := (List.getElem?_eq_some_iff.1 hj).1; omega
      have hi1 : j / k < len := Nat.div_lt_of_lt_mul (by rw [Nat.mul_comm]; exact hjl)
      have hmod : j % k < k := Nat.mod_lt _ hk
      have e : j / k * k + j % k = j := by rw [Nat.mul_comm]; exact Nat.div_add_mod j k
      have h4 := f2 (j / k) hi1
      have h5 : (q (j / k)).1[j % k]? = some u := by
        rw [← h4, List.getElem?_take_of_lt hmod, List.getElem?_drop, e]; exact hj
      have := (hq _ hi1).2.2 _ _ h5
      rwa [e] at this
    · intro i x hx
      have hil : i < len := by have := (List.getElem?_eq_some_iff.1 hx).1; dsimp only at this; omega
      rw [f2 i hil]
      obtain ⟨x', h1, h2⟩ := hx0 i hil
      have hg := hget i hil
      rw [hx, h1] at hg
      cases hg
      exact h2⟩
end

/-- A parameter, as it reads. -/
theorem reads_arg {H : Type} {enc : TypeId × Value → H} {P : Program} {W : World} {base : Nat} {spare : Nat → Bool} {held : Bool} {t : TypeId} {v : Value} {d : DataW H} {p : List MemPlace} {k : Nat} {α : Type} {r : Rd α} (hr : Reads P t k r)
    (h : DataW.Trod enc P W base spare held t v d p) {ts : List TypeId} {ds : List (DataW H)} {j : Nat} (hsz : (DataW.weightsEach P ts ds).all (· ≤ reachBytes) = true) (ht : ts[j]? = some t) (hd : ds[j]? = some d) : ∃ a, r W v.cells.toList a := by
  obtain ⟨fuel, hf⟩ := h
  refine (hr.2 H enc W base spare held fuel _ _ hf fun n hn => ?_).2
  have := List.all_eq_true.1 hsz n (DataW.weights_mem_each ht hd n hn)
  simpa using this
end Go.Proofs.Ytcfpbemoocegfaa
