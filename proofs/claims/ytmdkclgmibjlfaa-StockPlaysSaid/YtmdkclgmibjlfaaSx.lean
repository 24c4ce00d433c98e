/- StockStays: what holds of each unit; scripts of acts. -/
import Derived.Test.YtmdkclgmibjlfaaSw
import Derived.Test.YtmdkclgmibjlfaaSa
import Derived.Deep.OwnRows
set_option linter.unusedVariables false
set_option linter.unusedSimpArgs false
namespace Go.Proofs.Ytmdkclgmibjlfaa.Ba
open Go.RowKit Go.Maps Go.Proofs.Ytmdkclgmibjlfaa.Mx Go.Proofs.Ytmdkclgmibjlfaa.Lib

/-- A list of acts that came in. -/
def ActsAt (w : World) (a : Option Addr) (len : Nat) (K A C : Nat → Int) : Prop :=
  len ≤ 9223372036854775807 ∧ (0 < len → ∃ b off, a = some ⟨b, off, none⟩ ∧ b < w.heap.size ∧ ∀ j, j < len → w.cell? ⟨b, off + j * 3, none⟩ = some (.int .u8 (K j)) ∧ w.cell? ⟨b, off + j * 3 + 1, none⟩ = some (.int .i64 (A j)) ∧ w.cell? ⟨b, off + j * 3 + 2, none⟩ = some (.int .i64 (C j)))

theorem ActsAt.below {w w1 : World} {a : Option Addr} {len : Nat} {K R S : Nat → Int} (h : ActsAt w a len K R S) (hb : Below w.heap.size w w1) : ActsAt w1 a len K R S := by
  refine ⟨h.1, fun hp => ?_⟩
  obtain ⟨b, off, e, hlt, hc⟩ := h.2 hp
  refine ⟨b, off, e, Nat.lt_of_lt_of_le hlt hb.size, fun j hj => ?_⟩
  obtain ⟨h1, h2, h3⟩ := hc j hj
  exact ⟨(hb.cell (p := ⟨b, off + j * 3, none⟩) hlt).trans h1, (hb.cell (p := ⟨b, off + j * 3 + 1, none⟩) hlt).trans h2, (hb.cell (p := ⟨b, off + j * 3 + 2, none⟩) hlt).trans h3⟩

section
variable {H : Type} {enc : TypeId × Value → H} {w : World} {base : Nat} {spare : Nat → Bool} {held : Bool}
theorem open_acts {r : Reach} {b0 : Nat} {v : Value} {d : DataW H} {p : List MemPlace} (hv : Value.okWide Try.prog w r b0 25 v) (h : DataW.Trod enc Try.prog w base spare held 25 v d p) :
    ∃ (a : Option Addr) (len cap : Nat) (K A C : Nat → Int), v = .slice a len cap ∧ ActsAt w a len K A C := by
  obtain ⟨a, len, cap, rfl⟩ := Go.WideShapes.okWide_slice Try.underlying25 hv
  obtain ⟨a', len', cap', e, h1, h2, h3, h4⟩ := (Leaf.of_Trod h rfl).slice (n := 3) (sz := 3) Try.underlying25 (by kernel_rfl) (by kernel_rfl) (by omega)
  obtain ⟨rfl, rfl, rfl⟩ := Value.slice.inj e
  have hm : len ≤ 9223372036854775807 := by unfold maxLen at h2; omega
  by_cases hp : 0 < len
  · obtain ⟨b, off, f, rfl, hb, hf⟩ := h4 hp
    obtain ⟨G, hG⟩ := Deep.choose_lt (n := len) (p := fun i (z : Int × Int × Int) => f i = [.int .u8 z.1, .int .i64 z.2.1, .int .i64 z.2.2]) (fun i hi => by
      obtain ⟨_, _, g3⟩ := hf i hi
      rw [show leaves Try.prog 3 31 = [5, 3, 3] from by kernel_rfl] at g3
      obtain ⟨x, r, e1, q1, g4⟩ := g3.cons
      obtain ⟨x2, r2, e2, q2, g5⟩ := g4.cons
      obtain ⟨x3, r3, e3, q3, g6⟩ := g5.cons
      have e4 := g6.nil
      subst e4 e3 e2
      obtain ⟨z, rfl, wz⟩ := q1.int Try.underlying5
      obtain ⟨z2, rfl, _⟩ := q2.int Try.underlying3
      obtain ⟨z3, rfl, _⟩ := q3.int Try.underlying3
      exact ⟨(z, z2, z3), e1⟩)
    refine ⟨_, len, cap, fun j => (G j).1, fun j => (G j).2.1, fun j => (G j).2.2, rfl, ⟨hm, fun _ => ⟨b, off, rfl, hb, fun j hj => ?_⟩⟩⟩
    have g := (hf j hj).2.1
    rw [hG j hj] at g
    exact ⟨by simpa using g 0 (by omega), by simpa [Nat.add_assoc] using g 1 (by omega), by simpa [Nat.add_assoc] using g 2 (by omega)⟩
  · exact ⟨a, len, cap, fun _ => 0, fun _ => 0, fun _ => 0, rfl, ⟨hm, fun h => absurd h hp⟩⟩
end

theorem picks_ex (E : Units) (sku : Int) : ∃ pk, Picks E sku pk := by
  have : ∀ k, k ≤ E.length → (∀ j, j < k → ¬ ((E.getD j d4).1 = 3 ∧ (E.getD j d4).2.1 = sku)) ∨ ∃ j, j < k ∧ (E.getD j d4).1 = 3 ∧ (E.getD j d4).2.1 = sku ∧ ∀ i, i < j → ¬ ((E.getD i d4).1 = 3 ∧ (E.getD i d4).2.1 = sku) := by
    intro k
    induction k with
    | zero => exact fun _ => Or.inl fun j hj => absurd hj (by omega)
    | succ k ih =>
      intro hk
      rcases ih (by omega) with h | ⟨j, h1, h2⟩
      · by_cases hm : (E.getD k d4).1 = 3 ∧ (E.getD k d4).2.1 = sku
        · exact Or.inr ⟨k, by omega, hm.1, hm.2, h⟩
        · refine Or.inl fun j hj => ?_
          by_cases e : j = k
          · rw [e]; exact hm
          · exact h j (by omega)
      · exact Or.inr ⟨j, by omega, h2⟩
  rcases this E.length (Nat.le_refl _) with h | ⟨j, h1, h2⟩
  · exact ⟨none, h⟩
  · exact ⟨some j, h1, h2⟩

/-- What holds of a unit that came in with the customer. -/
structure InvU (p : Int × Int × Bool × Bool) : Prop where
  lo : 0 ≤ p.1
  hi : p.1 ≤ 8
  dock : p.1 = 2 → p.2.2.1 = true
  shelf : p.1 = 3 ∨ p.1 = 4 ∨ p.1 = 5 ∨ p.1 = 7 → p.2.2.1 = true ∧ p.2.2.2 = true
  gr : p.2.2.2 = true → p.2.2.1 = true

theorem InvU.moved {p : Int × Int × Bool × Bool} (h : InvU p) {t : Int} (hm : mayS p.1 t = true) : InvU (moved p t) := by
  obtain ⟨p0, p1, p2, p3⟩ := p
  obtain ⟨h1, h2, h3, h4, h5⟩ := h
  simp only at h1 h2 h3 h4 h5
  unfold mayS at hm
  simp only at hm
  split at hm
  · rename_i e; subst e
    obtain rfl : t = 1 := by simpa using hm
    exact ⟨by simp [Ba.moved], by simp [Ba.moved], by simp [Ba.moved], by simp [Ba.moved], by simpa [Ba.moved] using h5⟩
  split at hm
  · rename_i e; subst e
    have hm : t = 2 ∨ t = 6 := by simpa using hm
    rcases hm with rfl | rfl
    · exact ⟨by simp [Ba.moved], by simp [Ba.moved], by simp [Ba.moved], by simp [Ba.moved], by simp [Ba.moved]⟩
    · exact ⟨by simp [Ba.moved], by simp [Ba.moved], by simp [Ba.moved], by simp [Ba.moved], by simpa [Ba.moved] using h5⟩
  split at hm
  · rename_i e; subst e
    have hr := h3 rfl
    have hm : t = 3 ∨ t = 4 ∨ t = 5 ∨ t = 8 := by simpa [or_assoc] using hm
    rcases hm with rfl | rfl | rfl | rfl
    all_goals exact ⟨by simp [Ba.moved], by simp [Ba.moved], by simp [Ba.moved], by simp [Ba.moved, hr], by simp [Ba.moved, hr]⟩
  split at hm
  · rename_i e; subst e
    have hr := h4 (Or.inl rfl)
    obtain rfl : t = 7 := by simpa using hm
    exact ⟨by simp [Ba.moved], by simp [Ba.moved], by simp [Ba.moved], by simp [Ba.moved, hr], by simp [Ba.moved, hr]⟩
  split at hm
  · rename_i e; subst e
    have hr := h4 (by simp)
    have hm : t = 3 ∨ t = 8 := by simpa using hm
    rcases hm with rfl | rfl
    all_goals exact ⟨by simp [Ba.moved], by simp [Ba.moved], by simp [Ba.moved], by simp [Ba.moved, hr], by simp [Ba.moved, hr]⟩
  split at hm
  · rename_i e; subst e
    have hm : t = 0 ∨ t = 6 := by simpa using hm
    rcases hm with rfl | rfl
    all_goals exact ⟨by simp [Ba.moved], by simp [Ba.moved], by simp [Ba.moved], by simp [Ba.moved], by simpa [Ba.moved] using h5⟩
  · cases hm

theorem InvU.picked {p : Int × Int × Bool × Bool} (h : InvU p) (hp : p.1 = 3) : InvU (picked p) := by
  have := h.shelf (Or.inl hp)
  exact ⟨by simp [Ba.picked], by simp [Ba.picked], by simp [Ba.picked], fun _ => this, fun _ => this.1⟩

theorem inv_set {E : Units} {j : Nat} {p : Int × Int × Bool × Bool} (h : ∀ q ∈ E, InvU q) (hp : InvU p) : ∀ q ∈ E.set j p, InvU q := fun q hq => by
  rcases List.mem_or_eq_of_mem_set hq with h1 | h1
  · exact h q h1
  · rw [h1]; exact hp

theorem inv_get {E : Units} {j : Nat} (h : ∀ q ∈ E, InvU q) (hj : j < E.length) : InvU (E.getD j d4) := by
  have : E.getD j d4 = E[j] := by simp [List.getD, hj]
  rw [this]
  exact h _ (List.getElem_mem hj)

theorem pick_step {w : World} {B : Nat} {v : Value} {E : Units} (h : StkAt w B v E) (hI : ∀ q ∈ E, InvU q) (sku : Int) :
    Calls Try.prog 18 #[.pointer (some ⟨B, 0, none⟩), .int .i64 sku] w fun e w' => (∃ a b, e = .returned (.tuple #[.int .i64 a, .int .i64 b])) ∧ (∃ E', StkAt w' B v E' ∧ E'.length = E.length ∧ ∀ q ∈ E', InvU q) ∧ Below (B + 1) w w' := by
  obtain ⟨pk, hpk⟩ := picks_ex E sku
  refine (pick_any h sku (Lib.hid hpk)).mono ?_
  rintro e w' ⟨h1, h2⟩
  cases pk with
  | none => exact ⟨⟨_, _, h1.1⟩, ⟨E, h1.2, rfl, hI⟩, h2⟩
  | some j => exact ⟨⟨_, _, h1.1⟩, ⟨_, h1.2, by simp, inv_set hI ((inv_get hI hpk.1).picked hpk.2.1)⟩, h2⟩

theorem move_step {w : World} {B : Nat} {v : Value} {E : Units} (h : StkAt w B v E) (hI : ∀ q ∈ E, InvU q) (n t : Int) :
    Calls Try.prog 19 #[.pointer (some ⟨B, 0, none⟩), .int .i64 n, .int .i64 t] w fun e w' => (∃ a, e = .returned (.int .i64 a)) ∧ (∃ E', StkAt w' B v E' ∧ E'.length = E.length ∧ ∀ q ∈ E', InvU q) ∧ Below (B + 1) w w' := by
  by_cases hn : 0 ≤ n ∧ n < E.length
  · obtain ⟨j, rfl⟩ : ∃ j : Nat, n = j := ⟨n.toNat, by omega⟩
    have hj : j < E.length := by omega
    refine (move_any h hj t (Y := mayS (E.getD j d4).1 t) (Lib.hid rfl)).mono ?_
    rintro e w' ⟨h0, h1, h2⟩
    refine ⟨⟨_, h0⟩, ⟨_, h1, ?_, ?_⟩, h2⟩
    · split <;> simp
    · split
      · rename_i hm
        exact inv_set hI ((inv_get hI hj).moved hm)
      · exact hI
  · refine (move_out h (n := n) (by simp only [inR]; cases h1 : decide (0 ≤ n) <;> simp_all) t).mono ?_
    rintro e w' ⟨h0, rfl⟩
    exact ⟨⟨_, h0⟩, ⟨E, h, rfl, hI⟩, Below.refl _ _⟩

/-- How many units are in the first k places. -/
def sumP (E : Units) : Nat → Int
  | 0 => 0
  | k + 1 => sumP E k + total (fPl k) E

theorem sumP_cons (p : Int × Int × Bool × Bool) (E : Units) (h : 0 ≤ p.1) : ∀ k : Nat, sumP (p :: E) k = sumP E k + (if p.1 < k then 1 else 0)
  | 0 => by simp only [sumP]; split <;> omega
  | k + 1 => by
    have ih := sumP_cons p E h k
    simp only [sumP, ih, total, List.map_cons, List.sum_cons, fPl]
    by_cases e : p.1 = (k : Int)
    · have : (p.1 == (k : Int)) = true := by simpa using e
      rw [if_neg (by omega), if_pos this, if_pos (by omega)]
      omega
    · have : ¬ (p.1 == (k : Int)) = true := by simpa using e
      rw [if_neg this]
      split <;> split <;> omega

theorem sumP_all : ∀ (E : Units), (∀ q ∈ E, InvU q) → sumP E 9 = E.length
  | [], _ => rfl
  | p :: E, h => by
    have hp := h p (by simp)
    have h1 := hp.lo
    have h2 := hp.hi
    rw [sumP_cons p E h1 9, sumP_all E (fun q hq => h q (by simp [hq]))]
    rw [if_pos (by omega)]
    simp

theorem sumP_bounds (E : Units) : ∀ k, 0 ≤ sumP E k ∧ sumP E k ≤ k * E.length
  | 0 => by simp [sumP]
  | k + 1 => by
    have ih := sumP_bounds E k
    have h := totalP_bounds k E
    simp only [sumP]
    have : ((k + 1 : Nat) : Int) * E.length = k * E.length + E.length := by
      rw [Int.natCast_add, Int.add_mul]; simp
    omega

theorem info3 : (Try.prog.info? 3).map (fun i => (i.zero, i.size, i.bytes)) = some (some (.int .i64 0), 1, 8) := by kernel_rfl

end Go.Proofs.Ytmdkclgmibjlfaa.Ba
