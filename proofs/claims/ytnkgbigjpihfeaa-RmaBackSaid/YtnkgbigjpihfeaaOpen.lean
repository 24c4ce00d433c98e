/- Reading arguments as cells: a struct, an array, a slice of such, opened to its scalar cells; over whatever program. -/
import Derived.ProofKit
import Derived.WalkKit
import Derived.Below
import Derived.Deep.Slices
import Derived.OpenShut
set_option linter.unusedVariables false
namespace Go.Proofs.Ytnkgbigjpihfeaa.Lib
open Go.ChangeShapes Go.WideShapes Go.RowKit Go.Deep

def All2 {α β : Type} (R : α → β → Prop) : List α → List β → Prop
  | [], [] => True
  | a :: as, b :: bs => R a b ∧ All2 R as bs
  | _, _ => False

theorem All2.append {α β : Type} {R : α → β → Prop} : ∀ {as as' : List α} {bs bs' : List β}, All2 R as bs → All2 R as' bs' → All2 R (as ++ as') (bs ++ bs')
  | [], _, [], _, _, h => h
  | a :: as, _, b :: bs, _, h, h' => ⟨h.1, All2.append h.2 h'⟩
  | [], _, _ :: _, _, h, _ => h.elim
  | _ :: _, _, [], _, h, _ => h.elim

theorem All2.length {α β : Type} {R : α → β → Prop} : ∀ {as : List α} {bs : List β}, All2 R as bs → as.length = bs.length
  | [], [], _ => rfl
  | _ :: _, _ :: _, h => by simp [All2.length h.2]
  | [], _ :: _, h => h.elim
  | _ :: _, [], h => h.elim

theorem All2.cons {α β : Type} {R : α → β → Prop} {a : α} {as : List α} {bs : List β} (h : All2 R (a :: as) bs) : ∃ b bs', bs = b :: bs' ∧ R a b ∧ All2 R as bs' := by
  cases bs with
  | nil => exact h.elim
  | cons b bs => exact ⟨b, bs, rfl, h.1, h.2⟩

theorem All2.nil {α β : Type} {R : α → β → Prop} {bs : List β} (h : All2 R [] bs) : bs = [] := by
  cases bs with
  | nil => rfl
  | cons b bs => exact h.elim

section
variable (P : Program)
/-- The scalar cells' types, in order. -/
def leaves : Nat → TypeId → List TypeId
  | 0, t => [t]
  | n + 1, t => match P.underlying t with
    | some (.array len e) => (List.replicate len (leaves n e)).flatten
    | some (.struct fs) => fs.toList.flatMap fun f => leaves n f.type
    | _ => [t]

def offsOk (n : Nat) : Nat → List Field → Bool
  | _, [] => true
  | o, f :: fs => f.offset == o && (leaves P n f.type).length == P.cellsOf f.type && offsOk n (o + P.cellsOf f.type) fs

def leavesOk : Nat → TypeId → Bool
  | 0, _ => false
  | n + 1, t => match P.underlying t with
    | some (.array len e) => leavesOk n e && (leaves P n e).length == P.cellsOf e && P.cellsOf t == len * P.cellsOf e
    | some (.struct fs) => offsOk P n 0 fs.toList && fs.toList.all (fun f => leavesOk n f.type) && P.cellsOf t == (fs.toList.map fun f => P.cellsOf f.type).sum
    | some (.int _) => true
    | some .bool => true
    | some (.slice _) => true
    | _ => false
end

section
variable {H : Type} {enc : TypeId × Value → H} {P : Program} {w : World} {base : Nat} {spare : Nat → Bool} {held : Bool}

/-- A scalar cell that reads. -/
def Leaf (enc : TypeId × Value → H) (P : Program) (w : World) (base : Nat) (spare : Nat → Bool) (held : Bool) (t : TypeId) (v : Value) : Prop := ∃ m y, DataW.trod enc P w base spare held m t [v] = some y

theorem Leaf.int {t : TypeId} {v : Value} {k : IntKind} (h : Leaf enc P w base spare held t v) (ht : P.underlying t = some (.int k)) : ∃ n, v = .int k n ∧ (Lit.int k n).wf = true := by
  obtain ⟨m, y, h⟩ := h
  obtain ⟨n, e, _, hw⟩ := DataW.trod_int ht h
  exact ⟨n, by simpa using e, hw⟩
theorem Leaf.bool {t : TypeId} {v : Value} (h : Leaf enc P w base spare held t v) (ht : P.underlying t = some .bool) : ∃ b, v = .bool b := by
  obtain ⟨m, y, h⟩ := h
  obtain ⟨b, e, _⟩ := DataW.trod_bool ht h
  exact ⟨b, by simpa using e⟩

theorem take_succ_chunk {α : Type} (cs : List α) (k c : Nat) : cs.take ((k + 1) * c) = cs.take (k * c) ++ (cs.drop (k * c)).take c := by
  rw [Nat.succ_mul, List.take_add]

theorem all2_chunks {R : TypeId → Value → Prop} {L : List TypeId} {cs : List Value} {c : Nat} (n : Nat) (h : ∀ i, i < n → All2 R L ((cs.drop (i * c)).take c)) :
    ∀ k, k ≤ n → All2 R (List.replicate k L).flatten (cs.take (k * c))
  | 0, _ => by simp [All2]
  | k + 1, hk => by
    rw [take_succ_chunk, List.replicate_succ', List.flatten_append]
    exact All2.append (all2_chunks n h k (by omega)) (by simpa using h k (by omega))

theorem all2_fields {R : TypeId → Value → Prop} {cs : List Value} {n : Nat} : ∀ (fs : List Field) (o : Nat), offsOk P n o fs = true →
    (∀ f ∈ fs, All2 R (leaves P n f.type) ((cs.drop f.offset).take (P.cellsOf f.type))) → All2 R (fs.flatMap fun f => leaves P n f.type) ((cs.drop o).take (fs.map fun f => P.cellsOf f.type).sum)
  | [], o, _, _ => by simp [All2]
  | f :: fs, o, ho, h => by
    simp only [offsOk, Bool.and_eq_true, beq_iff_eq] at ho
    obtain ⟨⟨h1, h2⟩, h3⟩ := ho
    have ih := all2_fields fs _ h3 (fun g hg => h g (List.mem_cons_of_mem _ hg))
    have hf := h f List.mem_cons_self
    rw [h1] at hf
    simp only [List.flatMap_cons, List.map_cons, List.sum_cons]
    rw [List.take_add, List.drop_drop]
    exact All2.append hf ih

theorem leaves_trod : ∀ (n fuel : Nat) (t : TypeId) (cs : List Value) (x : DataW H × List MemPlace), leavesOk P n t = true → DataW.trod enc P w base spare held fuel t cs = some x →
    All2 (Leaf enc P w base spare held) (leaves P n t) cs
  | 0, _, _, _, _, h, _ => by simp [leavesOk] at h
  | n + 1, fuel, t, cs, x, hk, h => by
    unfold leavesOk at hk
    unfold leaves
    cases ht : P.underlying t with
    | none => simp [ht] at hk
    | some d =>
      cases d with
      | array len e =>
        simp only [ht, Bool.and_eq_true, beq_iff_eq] at hk ⊢
        obtain ⟨⟨h1, h2⟩, h3⟩ := hk
        obtain ⟨xs, m, _, _, hl, hxl, hf⟩ := DataW.trod_array ht h
        have := all2_chunks (R := Leaf enc P w base spare held) (L := leaves P n e) (cs := cs) (c := P.cellsOf e) len (fun i hi => by
          have hi' := hf i hi
          have hs : xs[i]? = some (xs[i]'(by omega)) := by simp
          rw [hs] at hi'
          exact leaves_trod n m e _ _ h1 hi') len (Nat.le_refl _)
        rwa [← h3, ← hl, List.take_length] at this
      | struct fs =>
        simp only [ht, Bool.and_eq_true, beq_iff_eq, List.all_eq_true] at hk ⊢
        obtain ⟨⟨h1, h2⟩, h3⟩ := hk
        obtain ⟨xs, m, _, _, hl, hxl, hf⟩ := DataW.trod_struct ht h
        have := all2_fields (P := P) (R := Leaf enc P w base spare held) (cs := cs) (n := n) fs.toList 0 h1 (fun f hfm => by
          obtain ⟨i, hi, rfl⟩ := List.mem_iff_getElem.1 hfm
          have hi' := hf i fs.toList[i] (by simp at hi ⊢)
          have hs : xs[i]? = some (xs[i]'(by simp at hi; omega)) := by simp
          rw [hs] at hi'
          exact leaves_trod n m _ _ _ (h2 _ hfm) hi')
        rwa [← h3, ← hl, List.drop_zero, List.take_length] at this
      | int k =>
        obtain ⟨z, rfl, _, _⟩ := DataW.trod_int ht h
        exact ⟨⟨_, _, h⟩, trivial⟩
      | bool =>
        obtain ⟨z, rfl, _⟩ := DataW.trod_bool ht h
        exact ⟨⟨_, _, h⟩, trivial⟩
      | slice e =>
        rcases DataW.trod_slice ht h with ⟨rfl, _⟩ | ⟨a, len, cap, elems, rest, n', _, rfl, _⟩
        · exact ⟨⟨_, _, h⟩, trivial⟩
        · exact ⟨⟨_, _, h⟩, trivial⟩
      | _ => simp [ht] at hk

/-- A slice whose elements are so many cells each, opened: nil and empty ones too. -/
theorem Leaf.slice {t e : TypeId} {v : Value} {n sz : Nat} (h : Leaf enc P w base spare held t v) (ht : P.underlying t = some (.slice e)) (hok : leavesOk P n e = true) (hsz : P.cellsOf e = sz) (hpos : 0 < sz) :
    ∃ (a : Option Addr) (len cap : Nat), v = .slice a len cap ∧ len ≤ cap ∧ cap ≤ maxLen ∧ (a = none → len = 0 ∧ cap = 0) ∧
      (0 < len → ∃ (b off : Nat) (f : Nat → List Value), a = some ⟨b, off, none⟩ ∧ b < w.heap.size ∧ ∀ i, i < len → (f i).length = sz ∧ (∀ j, j < sz → w.cell? ⟨b, off + (i * sz + j), none⟩ = (f i)[j]?) ∧ All2 (Leaf enc P w base spare held) (leaves P n e) (f i)) := by
  obtain ⟨m, y, h⟩ := h
  rcases open_slice ht h with ⟨hcs, _⟩ | ⟨a, len, cap, m', n', D, Pl, hcs, hb, hl, hm, hmm, _, hx⟩
  · simp at hcs
    subst hcs
    exact ⟨none, 0, 0, rfl, Nat.le_refl _, Nat.zero_le _, fun _ => ⟨rfl, rfl⟩, fun h => absurd h (Nat.lt_irrefl _)⟩
  · simp at hcs
    subst hcs
    refine ⟨some a, len, cap, rfl, hl, hm, fun h => by simp at h, fun hp => ?_⟩
    have hle : len ≤ m' := by rw [hmm]; split <;> omega
    obtain ⟨f, hf⟩ := choose_lt (n := len) (p := fun i cs' => w.cells? base (a.add (i * P.cellsOf e)) (P.cellsOf e) = some cs' ∧ DataW.trod enc P w base spare held n' e cs' = some (D i, Pl i)) (fun i hi => hx i (by omega))
    have hz : w.cell? a = (f 0)[0]? := by
      have := (World.cells?_some (hf 0 hp).1).2.2 0 (by omega)
      simpa [Addr.add] using this
    have hz' : (f 0)[0]? = some ((f 0)[0]'(by have := (World.cells?_some (hf 0 hp).1).2.1; omega)) := by simp
    rw [hz'] at hz
    obtain ⟨b, off, spot⟩ := a
    have hspot : spot = none := World.cell?_spot hz
    subst hspot
    refine ⟨b, off, f, rfl, World.block_lt_of_cell? w _ hz, fun i hi => ?_⟩
    obtain ⟨h1, h2⟩ := hf i hi
    obtain ⟨_, h3, h4⟩ := World.cells?_some h1
    refine ⟨by omega, fun j hj => ?_, leaves_trod n n' e _ _ hok h2⟩
    have := h4 j (by omega)
    rw [hsz] at this
    rw [← this, add_add, ← Go.WideShapes.add_plain]

theorem Leaf.of_Trod {t : TypeId} {v : Value} {d : DataW H} {p : List MemPlace} (h : DataW.Trod enc P w base spare held t v d p) (h1 : v.cells.toList = [v]) : Leaf enc P w base spare held t v := by
  obtain ⟨n, hn⟩ := h
  exact ⟨n, _, by rw [← h1]; exact hn⟩

/-- A struct or an array that came in by value. -/
theorem open_flat {r : Reach} {b0 : Nat} {t : TypeId} {v : Value} {d : DataW H} {p : List MemPlace} {n : Nat} (hs : (∃ fs, P.underlying t = some (.struct fs)) ∨ ∃ k e, P.underlying t = some (.array k e)) (hok : leavesOk P n t = true)
    (hv : Value.okWide P w r b0 t v) (h : DataW.Trod enc P w base spare held t v d p) : ∃ cs : List Value, v = .agg cs.toArray ∧ All2 (Leaf enc P w base spare held) (leaves P n t) cs := by
  have hv' : ∃ cs, v = .agg cs := by
    rcases hs with ⟨fs, hs⟩ | ⟨k, e, hs⟩
    · simp only [Value.okWide, hs] at hv
      obtain ⟨cs, h1, _⟩ := hv
      exact ⟨cs, h1⟩
    · simp only [Value.okWide, hs] at hv
      obtain ⟨cs, h1, _⟩ := hv
      exact ⟨cs, h1⟩
  obtain ⟨cs, rfl⟩ := hv'
  obtain ⟨m, hm⟩ := h
  exact ⟨cs.toList, by simp, leaves_trod n m t _ _ hok (by simpa [Value.cells] using hm)⟩

/-- A slice's numbers, nil and empty ones too. -/
def IntsAt (w : World) (k : IntKind) (a : Option Addr) (len : Nat) (F : Nat → Int) : Prop :=
  len ≤ 9223372036854775807 ∧ (0 < len → ∃ b off, a = some ⟨b, off, none⟩ ∧ b < w.heap.size ∧ ∀ j, j < len → w.cell? ⟨b, off + j, none⟩ = some (.int k (F j)))

theorem IntsAt.below {w w1 : World} {k : IntKind} {a : Option Addr} {len : Nat} {F : Nat → Int} (h : IntsAt w k a len F) (hb : Below w.heap.size w w1) : IntsAt w1 k a len F := by
  refine ⟨h.1, fun hp => ?_⟩
  obtain ⟨b, off, e, hlt, hc⟩ := h.2 hp
  exact ⟨b, off, e, Nat.lt_of_lt_of_le hlt hb.size, fun j hj => (hb.cell (p := ⟨b, off + j, none⟩) hlt).trans (hc j hj)⟩

theorem open_ints_leaf {t e : TypeId} {v : Value} {k : IntKind} (h : Leaf enc P w base spare held t v) (ht : P.underlying t = some (.slice e)) (he : P.underlying e = some (.int k)) (hc : P.cellsOf e = 1) :
    ∃ (a : Option Addr) (len cap : Nat) (F : Nat → Int), v = .slice a len cap ∧ len ≤ cap ∧ cap ≤ maxLen ∧ (a = none → len = 0 ∧ cap = 0) ∧ IntsAt w k a len F ∧ ∀ j, j < len → (Lit.int k (F j)).wf = true := by
  obtain ⟨a, len, cap, rfl, h1, h2, h3, h4⟩ := h.slice (n := 1) ht (by simp [leavesOk, he]) hc (by omega)
  have hm : len ≤ 9223372036854775807 := by unfold maxLen at h2; omega
  by_cases hp : 0 < len
  · obtain ⟨b, off, f, rfl, hb, hf⟩ := h4 hp
    obtain ⟨F, hF⟩ := choose_lt (n := len) (p := fun i z => f i = [.int k z] ∧ (Lit.int k z).wf = true) (fun i hi => by
      obtain ⟨_, _, g3⟩ := hf i hi
      rw [show leaves P 1 e = [e] from by simp [leaves, he]] at g3
      obtain ⟨x, r, e1, q, g4⟩ := g3.cons
      have := g4.nil
      subst this
      obtain ⟨z, rfl, wz⟩ := q.int he
      exact ⟨z, e1, wz⟩)
    refine ⟨_, len, cap, F, rfl, h1, h2, h3, ⟨hm, fun _ => ⟨b, off, rfl, hb, fun j hj => ?_⟩⟩, fun j hj => (hF j hj).2⟩
    have := (hf j hj).2.1 0 (by omega)
    rw [(hF j hj).1] at this
    simpa using this
  · exact ⟨a, len, cap, fun _ => 0, rfl, h1, h2, h3, ⟨hm, fun h => absurd h hp⟩, fun j hj => absurd hj (by omega)⟩

theorem open_intslice {r : Reach} {b0 : Nat} {t e : TypeId} {v : Value} {d : DataW H} {p : List MemPlace} {k : IntKind} (ht : P.underlying t = some (.slice e)) (he : P.underlying e = some (.int k)) (hc : P.cellsOf e = 1)
    (hv : Value.okWide P w r b0 t v) (h : DataW.Trod enc P w base spare held t v d p) :
    ∃ (a : Option Addr) (len cap : Nat) (F : Nat → Int), v = .slice a len cap ∧ len ≤ cap ∧ cap ≤ maxLen ∧ (a = none → len = 0 ∧ cap = 0) ∧ IntsAt w k a len F ∧ ∀ j, j < len → (Lit.int k (F j)).wf = true := by
  obtain ⟨a, len, cap, rfl⟩ := okWide_slice ht hv
  exact open_ints_leaf (Leaf.of_Trod h rfl) ht he hc
end
end Go.Proofs.Ytnkgbigjpihfeaa.Lib
