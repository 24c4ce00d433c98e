/- Scripts of pairs that came in; what was asked first, and what of it is found by looking back. -/
import Derived.Test.YtmdkclgmibjlfaaCh
import Derived.Test.YtmdkclgmibjlfaaIn
import Derived.LoopTactic
set_option linter.unusedVariables false
set_option linter.unusedSimpArgs false
namespace Go.Proofs.Ytmdkclgmibjlfaa.Ba
open Go.RowKit Go.Maps Go.Proofs.Ytmdkclgmibjlfaa.Mx Go.Proofs.Ytmdkclgmibjlfaa.Lib

theorem maxLen_big2 : 1000 < maxLen := by decide

/-- A list of pairs that came in. -/
def PairsAt (w : World) (a : Option Addr) (len : Nat) (K R : Nat → Int) : Prop :=
  len ≤ 9223372036854775807 ∧ (0 < len → ∃ b off, a = some ⟨b, off, none⟩ ∧ b < w.heap.size ∧ ∀ j, j < len → w.cell? ⟨b, off + j * 2, none⟩ = some (.int .i64 (K j)) ∧ w.cell? ⟨b, off + j * 2 + 1, none⟩ = some (.int .i64 (R j)))

theorem PairsAt.below {w w1 : World} {a : Option Addr} {len : Nat} {K R : Nat → Int} (h : PairsAt w a len K R) (hb : Below w.heap.size w w1) : PairsAt w1 a len K R := by
  refine ⟨h.1, fun hp => ?_⟩
  obtain ⟨b, off, e, hlt, hc⟩ := h.2 hp
  refine ⟨b, off, e, Nat.lt_of_lt_of_le hlt hb.size, fun j hj => ?_⟩
  obtain ⟨h1, h2⟩ := hc j hj
  exact ⟨(hb.cell (p := ⟨b, off + j * 2, none⟩) hlt).trans h1, (hb.cell (p := ⟨b, off + j * 2 + 1, none⟩) hlt).trans h2⟩

section
variable {H : Type} {enc : TypeId × Value → H} {w : World} {base : Nat} {spare : Nat → Bool} {held : Bool}
theorem open_pairs {t e : TypeId} (ht : Try.prog.underlying t = some (.slice e)) (hok : leavesOk Try.prog 3 e = true) (hsz : Try.prog.cellsOf e = 2) (hl : leaves Try.prog 3 e = [3, 3])
    {r : Reach} {b0 : Nat} {v : Value} {d : DataW H} {p : List MemPlace} (hv : Value.okWide Try.prog w r b0 t v) (h : DataW.Trod enc Try.prog w base spare held t v d p) :
    ∃ (a : Option Addr) (len cap : Nat) (K R : Nat → Int), v = .slice a len cap ∧ PairsAt w a len K R ∧ (∀ j, j < len → (Lit.int .i64 (K j)).wf = true) := by
  obtain ⟨a, len, cap, rfl⟩ := Go.WideShapes.okWide_slice ht hv
  obtain ⟨a', len', cap', e, h1, h2, h3, h4⟩ := (Leaf.of_Trod h rfl).slice (n := 3) (sz := 2) ht hok hsz (by omega)
  obtain ⟨rfl, rfl, rfl⟩ := Value.slice.inj e
  have hm : len ≤ 9223372036854775807 := by unfold maxLen at h2; omega
  by_cases hp : 0 < len
  · obtain ⟨b, off, f, rfl, hb, hf⟩ := h4 hp
    obtain ⟨G, hG⟩ := Deep.choose_lt (n := len) (p := fun i (z : Int × Int) => f i = [.int .i64 z.1, .int .i64 z.2] ∧ (Lit.int .i64 z.1).wf = true) (fun i hi => by
      obtain ⟨_, _, g3⟩ := hf i hi
      rw [hl] at g3
      obtain ⟨x, r, e1, q1, g4⟩ := g3.cons
      obtain ⟨x2, r2, e2, q2, g5⟩ := g4.cons
      have e4 := g5.nil
      subst e4 e2
      obtain ⟨z, rfl, wz⟩ := q1.int Try.underlying3
      obtain ⟨z2, rfl, _⟩ := q2.int Try.underlying3
      exact ⟨(z, z2), e1, wz⟩)
    refine ⟨_, len, cap, fun j => (G j).1, fun j => (G j).2, rfl, ⟨hm, fun _ => ⟨b, off, rfl, hb, fun j hj => ?_⟩⟩, fun j hj => (hG j hj).2⟩
    have g := (hf j hj).2.1
    rw [(hG j hj).1] at g
    exact ⟨by simpa using g 0 (by omega), by simpa [Nat.add_assoc] using g 1 (by omega)⟩
  · exact ⟨a, len, cap, fun _ => 0, fun _ => 0, rfl, ⟨hm, fun h => absurd h hp⟩, fun j hj => absurd hj (by omega)⟩
end

theorem memb_zero (F : Nat → Int) (x : Int) : memb 0 F x = false := by simp [memb]
theorem memb_succ (n : Nat) (F : Nat → Int) (x : Int) : memb (n + 1) F x = (memb n F x || F n == x) := by
  unfold memb
  rw [List.range_succ, List.map_append, Bool.eq_iff_iff]
  simp [List.contains_iff_mem]
  constructor
  · rintro (h | h)
    · exact Or.inl h
    · exact Or.inr h.symm
  · rintro (h | h)
    · exact Or.inl h
    · exact Or.inr h.symm

section
variable {V : Type} (val : Nat → V) (K : Nat → Int)
/-- What was asked first, of each key. -/
def esOf : Nat → List (Int × V)
  | 0 => []
  | i + 1 => if keyIn (esOf i) (K i) then esOf i else esOf i ++ [(K i, val i)]

theorem esOf_old {i : Nat} (h : keyIn (esOf val K i) (K i) = true) : esOf val K (i + 1) = esOf val K i := by rw [esOf, if_pos h]
theorem esOf_new {i : Nat} (h : keyIn (esOf val K i) (K i) = false) : esOf val K (i + 1) = esOf val K i ++ [(K i, val i)] := by rw [esOf, if_neg (by simp [h])]

theorem once_esOf : ∀ i, Once (esOf val K i)
  | 0 => List.Pairwise.nil
  | i + 1 => by
    have ih := once_esOf i
    cases h : keyIn (esOf val K i) (K i)
    · rw [esOf_new val K h]
      exact ih.snoc h _
    · rw [esOf_old val K h]
      exact ih

theorem len_esOf : ∀ i, (esOf val K i).length ≤ i
  | 0 => Nat.le_refl _
  | i + 1 => by
    have ih := len_esOf i
    cases h : keyIn (esOf val K i) (K i)
    · rw [esOf_new val K h]
      simp
      omega
    · rw [esOf_old val K h]
      omega

theorem keyIn_esOf (x : Int) : ∀ i, keyIn (esOf val K i) x = true ↔ ∃ j, j < i ∧ K j = x
  | 0 => by simp [esOf, keyIn]
  | i + 1 => by
    have ih := keyIn_esOf x i
    cases h : keyIn (esOf val K i) (K i)
    · rw [esOf_new val K h, keyIn_snoc, Bool.or_eq_true, ih]
      constructor
      · rintro (⟨j, h1, h2⟩ | h1)
        · exact ⟨j, by omega, h2⟩
        · exact ⟨i, by omega, by simpa using h1⟩
      · rintro ⟨j, h1, h2⟩
        by_cases e : j = i
        · subst e; exact Or.inr (by simpa using h2)
        · exact Or.inl ⟨j, by omega, h2⟩
    · rw [esOf_old val K h, ih]
      constructor
      · rintro ⟨j, h1, h2⟩
        exact ⟨j, by omega, h2⟩
      · rintro ⟨j, h1, h2⟩
        by_cases e : j = i
        · subst e
          subst h2
          exact (keyIn_esOf (K j) j).1 h
        · exact ⟨j, by omega, h2⟩

theorem mem_esOf {j : Nat} (hf : ∀ j', j' < j → K j' ≠ K j) : ∀ i, j < i → (K j, val j) ∈ esOf val K i
  | 0, h => absurd h (by omega)
  | i + 1, h => by
    by_cases e : j = i
    · subst e
      have : keyIn (esOf val K j) (K j) = false := by
        cases hc : keyIn (esOf val K j) (K j)
        · rfl
        · obtain ⟨j', h1, h2⟩ := (keyIn_esOf val K (K j) j).1 hc
          exact absurd h2 (hf j' h1)
      rw [esOf_new val K this]
      simp
    · have ih := mem_esOf hf i (by omega)
      cases hc : keyIn (esOf val K i) (K i)
      · rw [esOf_new val K hc]
        simp [ih]
      · rw [esOf_old val K hc]
        exact ih
end

/-- What looking back from i down to lo has found. -/
structure Look (K R : Nat → Int) (i lo : Nat) (rma : Int) (first : Bool) : Prop where
  yes : first = true → rma = R i ∧ ∀ j, lo ≤ j → j < i → K j ≠ K i
  no : first = false → ∃ j, lo ≤ j ∧ j < i ∧ K j = K i ∧ R j = rma ∧ ∀ j', lo ≤ j' → j' < j → K j' ≠ K i

theorem look_start (K R : Nat → Int) (i : Nat) : Look K R i i (R i) true := ⟨fun _ => ⟨rfl, fun j h1 h2 => absurd h2 (by omega)⟩, fun h => by cases h⟩
theorem look_hit {K R : Nat → Int} {i lo : Nat} (hlo : lo < i) (hk : K lo = K i) : Look K R i lo (R lo) false :=
  ⟨fun h => (by cases h), fun _ => ⟨lo, Nat.le_refl _, hlo, hk, rfl, fun j' h1 h2 => absurd h2 (by omega)⟩⟩
theorem look_miss {K R : Nat → Int} {i lo : Nat} {rma : Int} {first : Bool} (h : Look K R i (lo + 1) rma first) (hk : K lo ≠ K i) : Look K R i lo rma first := by
  refine ⟨fun e => ⟨(h.yes e).1, fun j h1 h2 => ?_⟩, fun e => ?_⟩
  · by_cases hj : j = lo
    · rw [hj]; exact hk
    · exact (h.yes e).2 j (by omega) h2
  · obtain ⟨j, h1, h2, h3, h4, h5⟩ := h.no e
    refine ⟨j, by omega, h2, h3, h4, fun j' g1 g2 => ?_⟩
    by_cases hj : j' = lo
    · rw [hj]; exact hk
    · exact h5 j' (by omega) g2

theorem Look.key {V : Type} {val : Nat → V} {K R : Nat → Int} {i : Nat} {rma : Int} {first : Bool} (h : Look K R i 0 rma first) : keyIn (esOf val K i) (K i) = !first := by
  cases first
  · obtain ⟨j, h1, h2, h3, _⟩ := h.no rfl
    exact (keyIn_esOf val K (K i) i).2 ⟨j, h2, h3⟩
  · cases hc : keyIn (esOf val K i) (K i)
    · rfl
    · obtain ⟨j, h1, h2⟩ := (keyIn_esOf val K (K i) i).1 hc
      exact absurd h2 ((h.yes rfl).2 j (by omega) h1)

end Go.Proofs.Ytmdkclgmibjlfaa.Ba
