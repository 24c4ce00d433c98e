/- BankPlays: scripts of triples; what was asked first, as two rows that grow; a step of the bank. -/
import Derived.Test.YtmdkclgmibjlfaaBb
import Derived.Test.YtmdkclgmibjlfaaSc
import Derived.WalkSmall
import Derived.OwnWalk
import Derived.Maps.AppendAt
set_option linter.unusedVariables false
set_option linter.unusedSimpArgs false
namespace Go.Proofs.Ytmdkclgmibjlfaa.Ba
open Go.RowKit Go.Maps Go.Proofs.Ytmdkclgmibjlfaa.Mx Go.Proofs.Ytmdkclgmibjlfaa.Lib

/-- A list of triples that came in. -/
def TripAt (w : World) (a : Option Addr) (len : Nat) (K R S : Nat → Int) : Prop :=
  len ≤ 9223372036854775807 ∧ (0 < len → ∃ b off, a = some ⟨b, off, none⟩ ∧ b < w.heap.size ∧ ∀ j, j < len → w.cell? ⟨b, off + j * 3, none⟩ = some (.int .i64 (K j)) ∧ w.cell? ⟨b, off + j * 3 + 1, none⟩ = some (.int .i64 (R j)) ∧ w.cell? ⟨b, off + j * 3 + 2, none⟩ = some (.int .i64 (S j)))

theorem TripAt.below {w w1 : World} {a : Option Addr} {len : Nat} {K R S : Nat → Int} (h : TripAt w a len K R S) (hb : Below w.heap.size w w1) : TripAt w1 a len K R S := by
  refine ⟨h.1, fun hp => ?_⟩
  obtain ⟨b, off, e, hlt, hc⟩ := h.2 hp
  refine ⟨b, off, e, Nat.lt_of_lt_of_le hlt hb.size, fun j hj => ?_⟩
  obtain ⟨h1, h2, h3⟩ := hc j hj
  exact ⟨(hb.cell (p := ⟨b, off + j * 3, none⟩) hlt).trans h1, (hb.cell (p := ⟨b, off + j * 3 + 1, none⟩) hlt).trans h2, (hb.cell (p := ⟨b, off + j * 3 + 2, none⟩) hlt).trans h3⟩

section
variable {H : Type} {enc : TypeId × Value → H} {w : World} {base : Nat} {spare : Nat → Bool} {held : Bool}
theorem open_trips {r : Reach} {b0 : Nat} {v : Value} {d : DataW H} {p : List MemPlace} (hv : Value.okWide Try.prog w r b0 56 v) (h : DataW.Trod enc Try.prog w base spare held 56 v d p) :
    ∃ (a : Option Addr) (len cap : Nat) (K R S : Nat → Int), v = .slice a len cap ∧ TripAt w a len K R S ∧ (∀ j, j < len → (Lit.int .i64 (K j)).wf = true) := by
  obtain ⟨a, len, cap, rfl⟩ := Go.WideShapes.okWide_slice Try.underlying56 hv
  obtain ⟨a', len', cap', e, h1, h2, h3, h4⟩ := (Leaf.of_Trod h rfl).slice (n := 3) (sz := 3) Try.underlying56 (by kernel_rfl) (by kernel_rfl) (by omega)
  obtain ⟨rfl, rfl, rfl⟩ := Value.slice.inj e
  have hm : len ≤ 9223372036854775807 := by unfold maxLen at h2; omega
  by_cases hp : 0 < len
  · obtain ⟨b, off, f, rfl, hb, hf⟩ := h4 hp
    obtain ⟨G, hG⟩ := Deep.choose_lt (n := len) (p := fun i (z : Int × Int × Int) => f i = [.int .i64 z.1, .int .i64 z.2.1, .int .i64 z.2.2] ∧ (Lit.int .i64 z.1).wf = true) (fun i hi => by
      obtain ⟨_, _, g3⟩ := hf i hi
      rw [show leaves Try.prog 3 61 = [3, 3, 2] from by kernel_rfl] at g3
      obtain ⟨x, r, e1, q1, g4⟩ := g3.cons
      obtain ⟨x2, r2, e2, q2, g5⟩ := g4.cons
      obtain ⟨x3, r3, e3, q3, g6⟩ := g5.cons
      have e4 := g6.nil
      subst e4 e3 e2
      obtain ⟨z, rfl, wz⟩ := q1.int Try.underlying3
      obtain ⟨z2, rfl, _⟩ := q2.int Try.underlying3
      obtain ⟨z3, rfl, _⟩ := q3.int Try.underlying2
      exact ⟨(z, z2, z3), e1, wz⟩)
    refine ⟨_, len, cap, fun j => (G j).1, fun j => (G j).2.1, fun j => (G j).2.2, rfl, ⟨hm, fun _ => ⟨b, off, rfl, hb, fun j hj => ?_⟩⟩, fun j hj => (hG j hj).2⟩
    have g := (hf j hj).2.1
    rw [(hG j hj).1] at g
    exact ⟨by simpa using g 0 (by omega), by simpa [Nat.add_assoc] using g 1 (by omega), by simpa [Nat.add_assoc] using g 2 (by omega)⟩
  · exact ⟨a, len, cap, fun _ => 0, fun _ => 0, fun _ => 0, rfl, ⟨hm, fun h => absurd h hp⟩, fun j hj => absurd hj (by omega)⟩
end

/-- A list of bools. -/
def BoolsAt (w : World) (a : Option Addr) (len : Nat) (G : Nat → Bool) : Prop :=
  len ≤ 9223372036854775807 ∧ (0 < len → ∃ b off, a = some ⟨b, off, none⟩ ∧ b < w.heap.size ∧ ∀ j, j < len → w.cell? ⟨b, off + j, none⟩ = some (.bool (G j)))

abbrev dd : Int × Int × Int × Bool := (0, 0, 0, false)
def cells3 (E : Deeds) : List Value := E.flatMap fun p => [.int .i64 p.1, .int .i64 p.2.1, .int .i64 p.2.2.1]
def cellsY (E : Deeds) : List Value := E.map fun p => .bool p.2.2.2

theorem cells3_at : ∀ (E : Deeds) (j : Nat), j < E.length → (cells3 E)[j * 3]? = some (.int .i64 (E.getD j dd).1) ∧ (cells3 E)[j * 3 + 1]? = some (.int .i64 (E.getD j dd).2.1) ∧ (cells3 E)[j * 3 + 2]? = some (.int .i64 (E.getD j dd).2.2.1)
  | [], j, h => absurd h (by simp)
  | p :: E, 0, h => by simp [cells3]
  | p :: E, j + 1, h => by
    have ih := cells3_at E j (by simpa using h)
    have e1 : (j + 1) * 3 = j * 3 + 1 + 1 + 1 := by omega
    simp only [cells3, List.flatMap_cons, e1] at ih ⊢
    simpa using ih

theorem cells3_snoc (E : Deeds) (p : Int × Int × Int × Bool) : cells3 (E ++ [p]) = cells3 E ++ [.int .i64 p.1, .int .i64 p.2.1, .int .i64 p.2.2.1] := by simp [cells3]
theorem cellsY_snoc (E : Deeds) (p : Int × Int × Int × Bool) : cellsY (E ++ [p]) = cellsY E ++ [.bool p.2.2.2] := by simp [cellsY]

theorem trips_of_row {w : World} {base : Nat} {v : Value} {E : Deeds} (h : w.ownsRow base 61 3 v E.length (cells3 E)) :
    ∃ a c, v = .slice a E.length c ∧ TripAt w a E.length (fun j => (E.getD j dd).1) (fun j => (E.getD j dd).2.1) (fun j => (E.getD j dd).2.2.1) := by
  rcases h.2 with ⟨rfl, h0⟩ | ⟨g, cap, cur, rfl, hb, hg, hnc, hcm, hcs, ht⟩
  · exact ⟨none, 0, by rw [h0], by omega, fun hp => absurd hp (by omega)⟩
  · refine ⟨_, cap, rfl, by unfold maxLen at hcm; omega, fun hp => ⟨g, 0, rfl, (Array.getElem?_eq_some_iff.1 hg).1, fun j hj => ?_⟩⟩
    obtain ⟨h1, h2, h3⟩ := cells3_at E j hj
    have c1 := h.cellAt (j * 3) (by omega)
    have c2 := h.cellAt (j * 3 + 1) (by omega)
    have c3 := h.cellAt (j * 3 + 2) (by omega)
    rw [h1] at c1
    rw [h2] at c2
    rw [h3] at c3
    exact ⟨by simpa using c1, by simpa using c2, by simpa using c3⟩

theorem bools_of_row {w : World} {base : Nat} {v : Value} {E : Deeds} (h : w.ownsRow base 4 1 v E.length (cellsY E)) :
    ∃ a c, v = .slice a E.length c ∧ BoolsAt w a E.length (fun j => (E.getD j dd).2.2.2) := by
  rcases h.2 with ⟨rfl, h0⟩ | ⟨g, cap, cur, rfl, hb, hg, hnc, hcm, hcs, ht⟩
  · exact ⟨none, 0, by rw [h0], by omega, fun hp => absurd hp (by omega)⟩
  · refine ⟨_, cap, rfl, by unfold maxLen at hcm; omega, fun hp => ⟨g, 0, rfl, (Array.getElem?_eq_some_iff.1 hg).1, fun j hj => ?_⟩⟩
    have c1 := h.cellAt j (by omega)
    have h1 : (cellsY E)[j]? = some (.bool (E.getD j dd).2.2.2) := by simp [cellsY, List.getD, hj]
    rw [h1] at c1
    simpa using c1

section
variable (lim : Int) (K R S : Nat → Int)
/-- What was asked first, and what was paid. -/
def bst : Nat → Deeds × Int
  | 0 => ([], 0)
  | i + 1 => if keyIn (bst i).1 (K i) then bst i else ((bst i).1 ++ [(K i, R i, S i, mayB lim (bst i).2 (S i))], if mayB lim (bst i).2 (S i) then (bst i).2 + S i else (bst i).2)

theorem bst_old {i : Nat} (h : keyIn (bst lim K R S i).1 (K i) = true) : bst lim K R S (i + 1) = bst lim K R S i := by rw [bst, if_pos h]
theorem bst_new {i : Nat} (h : keyIn (bst lim K R S i).1 (K i) = false) : bst lim K R S (i + 1) = ((bst lim K R S i).1 ++ [(K i, R i, S i, mayB lim (bst lim K R S i).2 (S i))], if mayB lim (bst lim K R S i).2 (S i) then (bst lim K R S i).2 + S i else (bst lim K R S i).2) := by rw [bst, if_neg (by simp [h])]
end

/-- What an entry puts to the sum of all. -/
def fY (p : Int × Int × Int × Bool) : Int := if p.2.2.2 then p.2.2.1 else 0

structure BInv (E : Deeds) (all : Int) (k : Nat) : Prop where
  once : Once E
  len : E.length ≤ k
  lo : 0 ≤ all
  hi : all ≤ 1125899906842624
  pos : ∀ p ∈ E, p.2.2.2 = true → 0 ≤ p.2.2.1
  tot : total fY E = all

theorem total_snoc {V : Type} (f : Int × V → Int) (E : List (Int × V)) (p : Int × V) : total f (E ++ [p]) = total f E + f p := by simp [total]

theorem binv (lim : Int) (K R S : Nat → Int) : ∀ k, BInv (bst lim K R S k).1 (bst lim K R S k).2 k
  | 0 => ⟨List.Pairwise.nil, Nat.le_refl _, Int.le_refl _, by simp [bst], fun p h => by simp [bst] at h, rfl⟩
  | k + 1 => by
    have ih := binv lim K R S k
    cases hk : keyIn (bst lim K R S k).1 (K k)
    · rw [bst_new lim K R S hk]
      have hl := ih.lo
      have hh := ih.hi
      refine ⟨ih.once.snoc hk _, by have := ih.len; simp; omega, ?_, ?_, ?_, ?_⟩
      · cases hm : mayB lim (bst lim K R S k).2 (S k)
        · simpa [hm] using hl
        · simp only [mayB, Bool.and_eq_true, decide_eq_true_eq] at hm
          simp only [if_true]
          omega
      · cases hm : mayB lim (bst lim K R S k).2 (S k)
        · simpa [hm] using hh
        · simp only [mayB, Bool.and_eq_true, decide_eq_true_eq] at hm
          simp only [if_true]
          omega
      · intro p hp hy
        rcases List.mem_append.1 hp with h | h
        · exact ih.pos p h hy
        · simp at h
          subst h
          simp only [mayB, Bool.and_eq_true, decide_eq_true_eq] at hy
          exact hy.1.1
      · rw [total_snoc, ih.tot]
        cases hm : mayB lim (bst lim K R S k).2 (S k) <;> simp [fY]
    · rw [bst_old lim K R S hk]
      exact ⟨ih.once, by have := ih.len; omega, ih.lo, ih.hi, ih.pos, ih.tot⟩

theorem total_append {V : Type} (f : Int × V → Int) (E E' : List (Int × V)) : total f (E ++ E') = total f E + total f E' := by simp [total]

theorem total_mono {V : Type} {f g : Int × V → Int} : ∀ {E : List (Int × V)}, (∀ p ∈ E, f p ≤ g p) → total f E ≤ total g E
  | [], _ => by simp [total]
  | p :: E, h => by
    have ih := total_mono (f := f) (g := g) (E := E) (fun q hq => h q (by simp [hq]))
    have hp := h p (by simp)
    unfold total at ih ⊢
    simp only [List.map_cons, List.sum_cons]
    omega

theorem total_nonneg {V : Type} {f : Int × V → Int} : ∀ {E : List (Int × V)}, (∀ p ∈ E, 0 ≤ f p) → 0 ≤ total f E
  | [], _ => by simp [total]
  | p :: E, h => by
    have ih := total_nonneg (f := f) (E := E) (fun q hq => h q (by simp [hq]))
    have hp := h p (by simp)
    unfold total at ih ⊢
    simp only [List.map_cons, List.sum_cons]
    omega

theorem BInv.exec {E : Deeds} {all : Int} {k : Nat} (h : BInv E all k) (r : Int) : (∀ p ∈ E, 0 ≤ fB r p) ∧ ∀ j, 0 ≤ total (fB r) (E.take j) ∧ total (fB r) (E.take j) ≤ 1125899906842624 := by
  have h0 : ∀ p ∈ E, 0 ≤ fB r p := fun p hp => by
    unfold fB
    split
    · rename_i hc
      simp only [Bool.and_eq_true] at hc
      exact h.pos p hp hc.1
    · exact Int.le_refl _
  have h1 : ∀ p ∈ E, fB r p ≤ fY p := fun p hp => by
    have := h.pos p hp
    unfold fB fY
    cases hy : p.2.2.2
    · simp
    · have := this hy
      cases hx : p.2.1 == r
      · simpa using this
      · simp
  refine ⟨h0, fun j => ⟨total_nonneg (fun p hp => h0 p (List.mem_of_mem_take hp)), ?_⟩⟩
  have ht : total (fB r) E = total (fB r) (E.take j) + total (fB r) (E.drop j) := by
    rw [← total_append, List.take_append_drop]
  have hd := total_nonneg (f := fB r) (E := E.drop j) (fun p hp => h0 p (List.mem_of_mem_drop hp))
  have hm := total_mono (E := E) h1
  have := h.tot
  have := h.hi
  omega

/-- One asking, i asked already; at is where its key stands then. -/
theorem bask_step {w : World} {B M : Nat} {lim : Int} {i : Nat} {K R S : Nat → Int} (h : BankAt w B M lim (bst lim K R S i).2 (bst lim K R S i).1) (hwk : (Lit.int .i64 (K i)).wf = true) (hi : i ≤ 1000)
    {at_ : Nat} {r s : Int} {y : Bool} (hat : (bst lim K R S (i + 1)).1[at_]? = some (K i, r, s, y)) :
    Calls Try.prog 34 #[.pointer (some ⟨B, 0, none⟩), .int .i64 (K i), .int .i64 (R i), .int .i64 (S i)] w fun e w' => e = .returned (.bool y) ∧ Chg B M w w' ∧ BankAt w' B M lim (bst lim K R S (i + 1)).2 (bst lim K R S (i + 1)).1 := by
  have hv := binv lim K R S i
  have ho := (binv lim K R S (i + 1)).once
  have hm := List.mem_of_getElem? hat
  have hlen := hv.len
  cases hk : keyIn (bst lim K R S i).1 (K i)
  · rw [bst_new lim K R S hk] at hm ho ⊢
    have e := ho.same hm (show (K i, R i, S i, mayB lim (bst lim K R S i).2 (S i)) ∈ _ by simp)
    obtain ⟨rfl, rfl, rfl⟩ : r = R i ∧ s = S i ∧ y = _ := by simpa using e
    refine (ask_new h hk hwk (R i) (S i) ⟨hv.lo, hv.hi⟩ (by have := maxLen_big2; omega) (Y := mayB lim (bst lim K R S i).2 (S i)) (Lib.hid rfl) (Lib.hid rfl)).mono ?_
    rintro e w' ⟨rfl, hc, hb⟩
    exact ⟨rfl, hc, hb⟩
  · rw [bst_old lim K R S hk] at hm ⊢
    refine (ask_old h _ hm hwk (R i) (S i)).mono ?_
    rintro e w' ⟨rfl, hb⟩
    exact ⟨rfl, Chg.of_below hb, h.keep hb⟩

end Go.Proofs.Ytmdkclgmibjlfaa.Ba
