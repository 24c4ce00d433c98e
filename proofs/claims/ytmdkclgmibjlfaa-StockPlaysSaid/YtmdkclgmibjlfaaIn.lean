/- Lists of ints: slices.Clone and slices.Contains at every list. -/
import Derived.Test.YtmdkclgmibjlfaaOpen
import Derived.Test.YtmdkclgmibjlfaaShelf
import Derived.WalkKit
import Derived.ProofKit
import Derived.Lib.Hide
set_option linter.unusedVariables false
namespace Go.Proofs.Ytmdkclgmibjlfaa.Ba
open Go.RowKit Go.Proofs.Ytmdkclgmibjlfaa.Lib

theorem own_ints {w : World} {B n : Nat} {v : Value} {F : Nat → Int} (h : w.ownsRow B 3 1 v n (((List.range n).map F).map (Value.int .i64))) : ∃ a c, v = .slice a n c ∧ IntsAt w .i64 a n F ∧ (a = none → n = 0) ∧ (∀ p, a = some p → B ≤ p.block ∧ p.block < w.heap.size) ∧ n ≤ c := by
  obtain ⟨h1, ⟨rfl, rfl⟩ | ⟨g, cap, cur, rfl, hg, hh, hn, hc, hs, ht⟩⟩ := h
  · exact ⟨none, 0, rfl, ⟨by omega, fun h => absurd h (by omega)⟩, fun _ => rfl, (fun p h => by cases h), Nat.le_refl _⟩
  · refine ⟨_, cap, rfl, ⟨by unfold maxLen at hc; omega, fun _ => ⟨g, 0, rfl, (Array.getElem?_eq_some_iff.1 hh).1, fun j hj => ?_⟩⟩, (fun h => by cases h), (fun p h => by cases h; exact ⟨hg, (Array.getElem?_eq_some_iff.1 hh).1⟩), hn⟩
    simp only [World.cell?, hh]
    have := congrArg (fun l => l[j]?) ht
    simp [hj] at this
    simpa using this

theorem clone_any {a : Option Addr} {n c : Nat} {F : Nat → Int} (w : World) (h : IntsAt w .i64 a n F) (ha : a = none → n = 0) (hbig : n * 8 ≤ 140737488355328) :
    Calls Try.prog 50 #[.slice a n c] w fun e w' => ∃ a' c', e = .returned (.slice a' n c') ∧ IntsAt w' .i64 a' n F ∧ (a' = none → n = 0) ∧ (∀ p, a' = some p → w.heap.size ≤ p.block ∧ p.block < w'.heap.size) ∧ Below w.heap.size w w' := by
  cases a with
  | none =>
    obtain rfl := ha rfl
    refine (Try.slices_Clone_int_nil 0 c w).mono ?_
    rintro e w' ⟨rfl, rfl⟩
    exact ⟨none, 0, rfl, h, fun _ => rfl, (fun p h => by cases h), Below.refl _ _⟩
  | some p =>
    by_cases h0 : n = 0
    · subst h0
      refine (Try.slices_Clone_int_zero p c w).mono ?_
      rintro e w' ⟨v', rfl, ho, hn, hb⟩
      obtain ⟨a', c', rfl, hi, ha', hl', _⟩ := own_ints (F := F) (n := 0) (by simpa using ho)
      exact ⟨a', c', rfl, hi, ha', hl', hb⟩
    · obtain ⟨b, o, e, hb, hc⟩ := h.2 (by omega)
      cases e
      refine (Try.slices_Clone_int b o n c ((List.range n).map F) w (by simp) hbig (fun j hj => ?_)).mono ?_
      · have hj' : j < n := by simpa using hj
        rw [hc j hj']
        simp [List.getD, hj']
      · rintro e w' ⟨v', rfl, ho, hn, hb⟩
        rw [List.take_of_length_le (by simp)] at ho
        obtain ⟨a', c', rfl, hi, ha', hl', _⟩ := own_ints ho
        exact ⟨a', c', rfl, hi, ha', hl', hb⟩


/-- Is a number in a list? -/
def memb (n : Nat) (F : Nat → Int) (x : Int) : Bool := ((List.range n).map F).contains x

theorem contains_any {a : Option Addr} {n c : Nat} {F : Nat → Int} {w : World} (h : IntsAt w .i64 a n F) (x : Int) :
    Calls Try.prog 44 #[.slice a n c, .int .i64 x] w fun e w' => e = .returned (.bool (memb n F x)) ∧ w' = w := by
  by_cases h0 : n = 0
  · subst h0
    exact (Try.slices_Contains_int_empty a c x w).mono fun e w' h => ⟨by simpa [memb] using h.1, h.2⟩
  · obtain ⟨b, o, rfl, hb, hc⟩ := h.2 (by omega)
    refine (Try.slices_Contains_int b o n c ((List.range n).map F) x w (by simp) h.1 (fun j hj => ?_)).mono ?_
    · have hj' : j < n := by simpa using hj
      rw [hc j hj']
      simp [List.getD, hj']
    · rintro e w' ⟨rfl, rfl⟩
      refine ⟨?_, rfl⟩
      rw [List.take_of_length_le (by simp)]
      rfl

end Go.Proofs.Ytmdkclgmibjlfaa.Ba
