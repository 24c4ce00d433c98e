/- Lists told alike: slices.Equal and recouplaw14.Ints at every two lists; slices.Clone at every list. -/
import Derived.Test.YtnkgbigjpihfeaaOpen
import Derived.Test.YtnkgbigjpihfeaaShelf
import Derived.WalkKit
import Derived.ProofKit
import Derived.Lib.Hide
import Derived.LoopTactic
import Derived.Deep.QuietTactic
import Derived.BigQuiet
set_option linter.unusedVariables false
namespace Go.Proofs.Ytnkgbigjpihfeaa.Ma
open Go.RowKit Go.Proofs.Ytnkgbigjpihfeaa.Lib

/-- Are two lists alike? -/
def sameB (n : Nat) (F : Nat → Int) (m : Nat) (G : Nat → Int) : Bool := decide (n = m ∧ ∀ j, j < n → F j = G j)

theorem sameB_lens {n m : Nat} {F G : Nat → Int} (h : n ≠ m) : sameB n F m G = false := by simp [sameB, h]
theorem sameB_self (n : Nat) (F : Nat → Int) : sameB n F n F = true := by simp [sameB]
theorem sameB_symm (n m : Nat) (F G : Nat → Int) : sameB n F m G = sameB m G n F := by
  unfold sameB
  apply decide_eq_decide.2
  constructor
  · rintro ⟨rfl, h⟩; exact ⟨rfl, fun j hj => (h j hj).symm⟩
  · rintro ⟨rfl, h⟩; exact ⟨rfl, fun j hj => (h j hj).symm⟩

theorem list_same (n : Nat) (F G : Nat → Int) : ((List.range n).map F == (List.range n).map G) = sameB n F n G := by
  unfold sameB
  rw [Bool.eq_iff_iff, beq_iff_eq, decide_eq_true_iff]
  simp [List.map_inj_left]

theorem eqs_any {a1 a2 : Option Addr} {n c m d : Nat} {F G : Nat → Int} (w : World) (h1 : IntsAt w .i64 a1 n F) (h2 : IntsAt w .i64 a2 m G) :
    Calls Try.prog 73 #[.slice a1 n c, .slice a2 m d] w fun e w' => e = .returned (.bool (sameB n F m G)) ∧ ∃ q, w' = w.drewN q := by
  by_cases hnm : n = m
  · subst hnm
    by_cases h0 : n = 0
    · subst h0
      refine (Try.slices_Equal_int_empty a1 a2 c 0 d w (by omega)).mono ?_
      rintro e w' ⟨rfl, rfl⟩
      exact ⟨by simp [sameB], 0, rfl⟩
    · obtain ⟨b1, o1, rfl, hb1, hc1⟩ := h1.2 (by omega)
      obtain ⟨b2, o2, rfl, hb2, hc2⟩ := h2.2 (by omega)
      refine (Try.slices_Equal_int b1 o1 n c b2 o2 n d ((List.range n).map F) ((List.range n).map G) w (by simp) (by simp) h1.1 h2.1 (fun j hj => ?_) (fun j hj => ?_)).mono ?_
      · have hj' : j < n := by simpa using hj
        rw [hc1 j hj']
        simp [List.getD, hj']
      · have hj' : j < n := by simpa using hj
        rw [hc2 j hj']
        simp [List.getD, hj']
      · rintro e w' ⟨rfl, q, rfl⟩
        refine ⟨?_, q, rfl⟩
        rw [List.take_of_length_le (by simp), List.take_of_length_le (by simp), list_same]
  · refine (Try.slices_Equal_int_lens a1 a2 n c m d w hnm).mono ?_
    rintro e w' ⟨rfl, rfl⟩
    exact ⟨by rw [sameB_lens hnm], 0, rfl⟩

theorem own_ints {w : World} {B n : Nat} {v : Value} {F : Nat → Int} (h : w.ownsRow B 3 1 v n (((List.range n).map F).map (Value.int .i64))) : ∃ a c, v = .slice a n c ∧ IntsAt w .i64 a n F ∧ (a = none → n = 0) ∧ (∀ p, a = some p → B ≤ p.block) ∧ n ≤ c := by
  obtain ⟨h1, ⟨rfl, rfl⟩ | ⟨g, cap, cur, rfl, hg, hh, hn, hc, hs, ht⟩⟩ := h
  · exact ⟨none, 0, rfl, ⟨by omega, fun h => absurd h (by omega)⟩, fun _ => rfl, (fun p h => by cases h), Nat.le_refl _⟩
  · refine ⟨_, cap, rfl, ⟨by unfold maxLen at hc; omega, fun _ => ⟨g, 0, rfl, (Array.getElem?_eq_some_iff.1 hh).1, fun j hj => ?_⟩⟩, (fun h => by cases h), (fun p h => by cases h; exact hg), hn⟩
    simp only [World.cell?, hh]
    have := congrArg (fun l => l[j]?) ht
    simp [hj] at this
    simpa using this

theorem clone_any {a : Option Addr} {n c : Nat} {F : Nat → Int} (w : World) (h : IntsAt w .i64 a n F) (ha : a = none → n = 0) (hbig : n * 8 ≤ 140737488355328) :
    Calls Try.prog 77 #[.slice a n c] w fun e w' => ∃ a' c', e = .returned (.slice a' n c') ∧ IntsAt w' .i64 a' n F ∧ (a' = none → n = 0) ∧ (∀ p, a' = some p → w.heap.size ≤ p.block) ∧ Below w.heap.size w w' := by
  cases a with
  | none =>
    obtain rfl := ha rfl
    refine (Try.slices_Clone_int_nil 0 c w).mono ?_
    rintro e w' ⟨rfl, rfl⟩
    exact ⟨none, 0, rfl, h, fun _ => rfl, (fun p h => by cases h), Below.refl _ _⟩
  | some p =>
    by_cases h0 : n = 0
    · subst h0
      refine (Try.slices_Clone_int_zero p c w).mono ?_
      rintro e w' ⟨v', rfl, ho, hn, hb⟩
      obtain ⟨a', c', rfl, hi, ha', hl', _⟩ := own_ints (F := F) (n := 0) (by simpa using ho)
      exact ⟨a', c', rfl, hi, ha', hl', hb⟩
    · obtain ⟨b, o, e, hb, hc⟩ := h.2 (by omega)
      cases e
      refine (Try.slices_Clone_int b o n c ((List.range n).map F) w (by simp) hbig (fun j hj => ?_)).mono ?_
      · have hj' : j < n := by simpa using hj
        rw [hc j hj']
        simp [List.getD, hj']
      · rintro e w' ⟨v', rfl, ho, hn, hb⟩
        rw [List.take_of_length_le (by simp)] at ho
        obtain ⟨a', c', rfl, hi, ha', hl', _⟩ := own_ints ho
        exact ⟨a', c', rfl, hi, ha', hl', hb⟩

theorem ints_any {a1 a2 : Option Addr} {n c m d : Nat} {F G : Nat → Int} (w : World) (h1 : IntsAt w .i64 a1 n F) (h2 : IntsAt w .i64 a2 m G) :
    Calls Try.prog 74 #[.slice a1 n c, .slice a2 m d] w fun e w' => e = .returned (.bool (sameB n F m G)) ∧ ∃ q, w' = w.drewN q := by
  have hbig := h1.1
  have hbig2 := h2.1
  by_cases hnm : n = m
  · subst hnm
    have H1 := Lib.hid h1
    have H2 := Lib.hid h2
    have HS : Hid (sameB n F n G = true ↔ ∀ j, j < n → F j = G j) := Lib.hid (by simp [sameB])
    clear h1 h2
    generalize sameB n F n G = S at *
    go_enter Try.func74, Try.ntmps74
    go_wp2_with fail
    go_loopw [13] (fun i wr => ∃ k q : Nat, k ≤ n ∧ i = .int .i64 k ∧ Hid (∀ j, j < k → F j = G j) ∧ wr = w.drewN q) (fun i _ => n - (intOf i).toNat)
    case atStart => exact ⟨0, 0, Nat.zero_le _, rfl, Lib.hid (fun j hj => absurd hj (by omega)), rfl⟩
    case round =>
      obtain ⟨k, q, hk, rfl, hF, rfl⟩ := hrel
      by_cases hlt : k < n
      · obtain ⟨b1, o1, rfl, hb1, hc1⟩ := H1.out.2 (by omega)
        obtain ⟨b2, o2, rfl, hb2, hc2⟩ := H2.out.2 (by omega)
        have d1 := hc1 k hlt
        have d2 := hc2 k hlt
        clear hc1 hc2
        have HN : Hid (F k ≠ G k → S = false) := Lib.hid (fun h => by
          cases hS : S
          · rfl
          · exact absurd (HS.out.1 hS k hlt) h)
        have HY : Hid (F k = G k → ∀ j, j < k + 1 → F j = G j) := Lib.hid (fun h j hj => by
          by_cases hjk : j = k
          · rw [hjk]; exact h
          · exact hF.out j (by omega))
        generalize F k = x at *
        generalize G k = y at *
        cases hxy : (x == y)
        · have hxy' : (x != y) = true := by simpa using hxy
          have hs := HN.out (by simpa using hxy)
          clear HN HY HS
          subst hs
          go_wp2_with fail
          go_quiet (fail)
          go_wp2_with fail
          go_ret
          exact ⟨by simp, by first | exact ⟨_, rfl⟩ | (rw [World.drewN_drewN]; exact ⟨_, rfl⟩)⟩
        · have hxy' : (x != y) = false := by simpa using hxy
          have hy := Lib.hid (HY.out (by simpa using hxy))
          clear HN HY HS
          go_wp2_with fail
          go_quiet (fail)
          go_wp2_with fail
          go_roundw
          case rel => exact ⟨k + 1, q + nq, by omega, by go_num, hy, by simp⟩
          case measure => simp [intOf]; omega
      · have hs : S = true := HS.out.2 (fun j hj => hF.out j (by omega))
        subst hs
        clear HS hF
        go_wp2_with fail
        go_ret
        exact ⟨by simp, q, rfl⟩
  · rw [sameB_lens hnm]
    clear h1 h2
    have hnm' : ((n : Int) == (m : Int)) = false := by simp; omega
    go_enter Try.func74, Try.ntmps74
    go_wp2_with fail
    go_ret
    exact ⟨by simp, 0, rfl⟩

end Go.Proofs.Ytnkgbigjpihfeaa.Ma
