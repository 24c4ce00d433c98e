/- Whatever happens, step behind step, a done return stays done, and it is done behind at most six steps; no condition. -/
import Derived.Test.YtbmnknkheojoeaaPRmaEndsx2
namespace Go.Proofs.Ytbmnknkheojoeaa.Pure
open Go.RowKit Go.Proofs.Ytbmnknkheojoeaa.PRmaEnds Go.Proofs.YtbmnknkheojoeaaW.PrintWords Go.Proofs.YtbmnknkheojoeaaW.PrintLast

theorem ev_cases (b : Int) : b = 1 ∨ b = 2 ∨ b = 3 ∨ b = 4 ∨ b = 5 ∨ b = 6 ∨ b = 7 ∨ b = 8 ∨ b = 9 ∨ (b ≠ 1 ∧ b ≠ 2 ∧ b ≠ 3 ∧ b ≠ 4 ∧ b ≠ 5 ∧ b ≠ 6 ∧ b ≠ 7 ∧ b ≠ 8 ∧ b ≠ 9) := by omega

theorem st_cases (a : Int) : a = 1 ∨ a = 2 ∨ a = 3 ∨ a = 4 ∨ a = 5 ∨ (a ≠ 1 ∧ a ≠ 2 ∧ a ≠ 3 ∧ a ≠ 4 ∧ a ≠ 5) := by omega

/-- What a step does: refused, or from an open state to a later one. -/
def Good (s : Int) (r : Int × Int) : Prop :=
  r = (0, 8) ∨ (r.2 = 0 ∧ s < 6 ∧ ((s < r.1 ∧ r.1 ≤ 6 ∧ 1 ≤ s) ∨ (s ≤ 2 ∧ 7 ≤ r.1 ∧ r.1 ≤ 9)))

theorem next_good (k : Nat) (s b : Int) (hk : 12 ≤ k) : ∃ r, rma_Next.f k s b = some r ∧ Good s r := by
  obtain ⟨k, rfl⟩ : ∃ m, k = m + 12 := ⟨k - 12, by omega⟩
  rcases ev_cases b with rfl | rfl | rfl | rfl | rfl | rfl | rfl | rfl | rfl | ⟨b1, b2, b3, b4, b5, b6, b7, b8, b9⟩ <;>
    rcases st_cases s with rfl | rfl | rfl | rfl | rfl | ⟨a1, a2, a3, a4, a5⟩ <;>
    simp [rma_Next.f, rma_Next.j0, rma_Next.j1, rma_Next.j2, rma_Next.j3, rma_Next.j4, rma_Next.j5, rma_Next.j6, rma_Next.j7, rma_Next.j8, Good, *]

theorem awake_true (k : Nat) (hk : 12 ≤ k) : recouplaw14_awake.f k = some true := by
  obtain ⟨k, rfl⟩ : ∃ m, k = m + 12 := ⟨k - 12, by omega⟩
  simp [recouplaw14_awake.f, rma_Next.f, rma_Next.j0, rma_Next.j1]

theorem loop_true (xs : List Int) (hl : xs.length ≤ 100) (d : Nat) : ∀ (k : Nat) (s n i : Int), 0 ≤ i → (xs.length : Int) - i ≤ d → d + 13 < k →
    1 ≤ s → s ≤ 9 → 0 ≤ n → (s ≤ 6 → n < s) → (7 ≤ s → n ≤ 2) → recouplaw14_RmaEnds.l0 k xs s n (xs.length : Int) i = some true := by
  induction d with
  | zero =>
    intro k s n i h0 hd hk h1 h9 hn hlo hhi
    obtain ⟨k, rfl⟩ : ∃ m, k = m + 1 := ⟨k - 1, by omega⟩
    simp only [recouplaw14_RmaEnds.l0]
    rw [if_neg (by omega)]
    simp; omega
  | succ d ih =>
    intro k s n i h0 hd hk h1 h9 hn hlo hhi
    obtain ⟨k, rfl⟩ : ∃ m, k = m + 1 := ⟨k - 1, by omega⟩
    by_cases hlt : i < (xs.length : Int)
    · obtain ⟨r, hr, hg⟩ := next_good k s (wrap64 (Int.tmod (rd xs i) 10)) (by omega)
      have hw : wrap64 (i + 1) = i + 1 := by unfold wrap64; omega
      have hn1 : wrap64 (n + 1) = n + 1 := by unfold wrap64; omega
      simp only [recouplaw14_RmaEnds.l0]
      rw [if_pos hlt, if_pos h0, if_pos hlt, hr]
      simp only [Option.bind_some, hw]
      rcases hg with rfl | ⟨h2, hs, hc⟩
      · rw [if_neg (show ¬ ((0, 8) : Int × Int).2 = 0 by decide)]
        exact ih _ s n (i + 1) (by omega) (by omega) (by omega) h1 h9 hn hlo hhi
      · rw [if_pos h2]
        have hdone : rma_Done.f 0 0 0 0 0 false s 0 ([] : List Int) ([] : List Int) 0 0 0 0 = some false := by
          unfold rma_Done.f; rw [if_neg (by omega)]
        rw [hdone]
        simp only [Option.bind_some, hn1]
        rw [if_neg (by decide)]
        exact ih _ r.1 (n + 1) (i + 1) (by omega) (by omega) (by omega) (by omega) (by omega) (by omega) (by omega) (by omega)
    · simp only [recouplaw14_RmaEnds.l0]
      rw [if_neg hlt]
      simp; omega

theorem RmaEnds : recouplaw14_RmaEnds.Pure := by
  intro xs _ _ _
  refine ⟨(xs.length + 27) + 1, ?_⟩
  unfold recouplaw14_RmaEnds.f
  rw [awake_true _ (by omega)]
  simp only [Option.bind_some, if_true]
  by_cases h : (xs.length : Int) > 100
  · simp only [recouplaw14_RmaEnds.j0]
    simp only [h, decide_true, if_true]
    rw [awake_true _ (by omega)]
    simp
  · simp only [recouplaw14_RmaEnds.j0]
    simp only [h, decide_false]
    rw [if_neg (by decide)]
    exact loop_true xs (by omega) xs.length _ 1 0 0 (by omega) (by omega) (by omega) (by omega) (by omega) (by omega) (by omega) (by omega)

end Go.Proofs.Ytbmnknkheojoeaa.Pure
