/- Contracts of the money layer: bits.Div64 where the high word is nought, cents.Part, Points; the long division of the reference. -/
import Derived.Test.YteeiiahmhmbepaaLed
import Derived.Test.YteeiiahmhmbepaaShelf
import Derived.Deep.QuietTactic
import Derived.BigQuiet
set_option linter.unusedVariables false
namespace Go.Proofs.Yteeiiahmhmbepaa.Led
open Go.RowKit

theorem div_zero_hi (lo y : Int) (w : World) (h0 : 0 ≤ lo) (h1 : lo ≤ 18446744073709551615) (hy0 : 0 < y) (hy1 : y ≤ 18446744073709551615) :
    Calls Try.prog 40 #[.int .u64 0, .int .u64 lo, .int .u64 y] w fun e w' => e = .returned (.tuple #[.int .u64 (lo / y), .int .u64 (lo % y)]) ∧ ∃ n, w' = w.drewN n := by
  have hy : (y == 0) = false := by simp; omega
  have hy' : decide (y ≤ 0) = false := by simp; omega
  go_enter Try.func40, Try.ntmps40
  go_wp2
  go_quiet (fail)
  go_wp2
  go_ret2
  exact ⟨by simp, _, rfl⟩

def partB (a n o : Int) : Bool := decide (1 ≤ o) && decide (0 ≤ n) && decide (n ≤ o)
def monB (a : Int) : Bool := decide (0 ≤ a) && decide (a ≤ 1125899906842624)
def partV (a n o : Int) : Int := if monB a = true then (if partB a n o = true then a * n / o else 0) else 0
def partE (a n o : Int) : Int := if monB a = true then (if partB a n o = true then 0 else 1) else 9

theorem monB_iff {a : Int} : monB a = true ↔ 0 ≤ a ∧ a ≤ 1125899906842624 := by
  unfold monB
  rw [Bool.and_eq_true, decide_eq_true_eq, decide_eq_true_eq]
theorem partB_iff {a n o : Int} : partB a n o = true ↔ 1 ≤ o ∧ 0 ≤ n ∧ n ≤ o := by
  unfold partB
  rw [Bool.and_eq_true, Bool.and_eq_true, decide_eq_true_eq, decide_eq_true_eq, decide_eq_true_eq, and_assoc]

theorem part_bad (a n o : Int) (w : World) (h : monB a = false ∨ partB a n o = false) :
    Calls Try.prog 16 #[.int .i64 a, .int .i64 n, .int .i64 o] w fun e w' => e = .returned (.tuple #[.int .i64 (partV a n o), .int .i64 (partE a n o)]) ∧ ∃ n, w' = w.drewN n := by
  by_cases a0 : a < 0
  · have hm : monB a = false := by simp [monB]; omega
    have e1 : partV a n o = 0 := by simp [partV, hm]
    have e2 : partE a n o = 9 := by simp [partE, hm]
    rw [e1, e2]
    clear h e1 e2 hm
    go_enter Try.func16, Try.ntmps16
    go_wp2
    go_ret2
    exact ⟨rfl, 0, rfl⟩
  · by_cases a1 : a ≤ 1125899906842624
    · have hm : monB a = true := by simp [monB]; omega
      have hp : partB a n o = false := by simpa [hm] using h
      have e1 : partV a n o = 0 := by simp [partV, hm, hp]
      have e2 : partE a n o = 1 := by simp [partE, hm, hp]
      rw [e1, e2]
      have hp' : o < 1 ∨ (1 ≤ o ∧ n < 0) ∨ (1 ≤ o ∧ 0 ≤ n ∧ o < n) := by simp [partB] at hp; omega
      clear h e1 e2 hm hp
      rcases hp' with b1 | ⟨b1, b2⟩ | ⟨b1, b2, b3⟩
      all_goals
        go_enter Try.func16, Try.ntmps16
        go_wp2
        go_ret2
        exact ⟨rfl, 0, rfl⟩
    · have hm : monB a = false := by simp [monB]; omega
      have e1 : partV a n o = 0 := by simp [partV, hm]
      have e2 : partE a n o = 9 := by simp [partE, hm]
      rw [e1, e2]
      clear h e1 e2 hm
      go_enter Try.func16, Try.ntmps16
      go_wp2
      go_ret2
      exact ⟨rfl, 0, rfl⟩

/-- Where the product takes one word. -/
theorem part_low (a n o : Int) (w : World) (ha : monB a = true) (hp : partB a n o = true) (hlow : a * n < 18446744073709551616) (ho : o ≤ 9223372036854775807) :
    Calls Try.prog 16 #[.int .i64 a, .int .i64 n, .int .i64 o] w fun e w' => e = .returned (.tuple #[.int .i64 (partV a n o), .int .i64 (partE a n o)]) ∧ ∃ n, w' = w.drewN n := by
  have e1 : partV a n o = a * n / o := by simp [partV, ha, hp]
  have e2 : partE a n o = 0 := by simp [partE, ha, hp]
  rw [e1, e2]
  obtain ⟨a0, a1⟩ := monB_iff.1 ha
  obtain ⟨o1, n0, n1⟩ := partB_iff.1 hp
  clear e1 e2 ha hp
  obtain ⟨a, rfl⟩ := Int.eq_ofNat_of_zero_le a0
  obtain ⟨n, rfl⟩ := Int.eq_ofNat_of_zero_le n0
  have hq : ((a * n / 18446744073709551616 : Nat) : Int) = 0 := by
    have : a * n < 18446744073709551616 := by
      have h := hlow
      rw [← Int.natCast_mul] at h
      omega
    have := Nat.div_eq_of_lt this
    omega
  have hr : ((a * n % 18446744073709551616 : Nat) : Int) = (a : Int) * n := by
    have : a * n < 18446744073709551616 := by
      have h := hlow
      rw [← Int.natCast_mul] at h
      omega
    rw [Nat.mod_eq_of_lt this]
    push_cast
    rfl
  have hle : 0 ≤ (a : Int) * n := by rw [← hr]; omega
  have hdle : (a : Int) * n / o ≤ 1125899906842624 := by
    have h1 : (a : Int) * n ≤ a * o := Int.mul_le_mul_of_nonneg_left n1 a0
    have h2 : (a : Int) * n / o ≤ a * o / o := Int.ediv_le_ediv (by omega) h1
    rw [Int.mul_ediv_cancel _ (by omega)] at h2
    omega
  have hd0 : 0 ≤ (a : Int) * n / o := Int.ediv_nonneg hle (by omega)
  have Hm : Hid (∀ w, Calls Try.prog 39 #[.int .u64 a, .int .u64 n] w fun e w' => e = .returned (.tuple #[.int .u64 0, .int .u64 ((a : Int) * n)]) ∧ w' = w) := by
    refine Lib.hid ?_
    intro w
    have := Try.bits_Mul64 a n (by omega) (by omega) w
    rw [hq, hr] at this
    exact this
  have hlow' : (a : Int) * n ≤ 18446744073709551615 := by omega
  clear hq hr hlow
  generalize (a : Int) * n = z at *
  have Hd := Lib.hid (fun w => div_zero_hi z o w hle hlow' (by omega) (by omega))
  generalize z / o = q at *
  go_enter Try.func16, Try.ntmps16
  go_wp2_with fail
  refine (Hm.out _).mono ?_
  rintro e w' ⟨rfl, rfl⟩
  go_wp2_with fail
  refine (Hd.out _).mono ?_
  rintro e w2 ⟨rfl, nn, rfl⟩
  go_wp2_with fail
  go_ret2
  exact ⟨by simp, nn, rfl⟩

theorem points_any (a p : Int) (w : World) : Calls Try.prog 18 #[.int .i64 a, .int .i64 p] w fun e w' => e = .returned (.tuple #[.int .i64 (partV a p 10000), .int .i64 (partE a p 10000)]) ∧ ∃ n, w' = w.drewN n := by
  have H : Hid (∀ w, Calls Try.prog 16 #[.int .i64 a, .int .i64 p, .int .i64 10000] w fun e w' => e = .returned (.tuple #[.int .i64 (partV a p 10000), .int .i64 (partE a p 10000)]) ∧ ∃ n, w' = w.drewN n) := by
    refine Lib.hid ?_
    intro w
    cases hm : monB a
    · exact part_bad a p 10000 w (.inl hm)
    · cases hp : partB a p 10000
      · exact part_bad a p 10000 w (.inr hp)
      · refine part_low a p 10000 w hm hp ?_ (by omega)
        obtain ⟨a0, a1⟩ := monB_iff.1 hm
        obtain ⟨_, p0, p1⟩ := partB_iff.1 hp
        have h1 : a * p ≤ a * 10000 := Int.mul_le_mul_of_nonneg_left p1 a0
        omega
  generalize partV a p 10000 = v at *
  generalize partE a p 10000 = x at *
  go_enter Try.func18, Try.ntmps18
  go_wp2_with fail
  refine (H.out _).mono ?_
  rintro e w2 ⟨rfl, nn, rfl⟩
  go_wp2_with fail
  go_ret2
  exact ⟨by simp, nn, rfl⟩

theorem awake05 (w : World) : Calls Try.prog 15 #[] w fun e w' => e = .returned (.bool true) ∧ ∃ n, w' = w.drewN n := by
  have H := Lib.hid (points_any 999 1500)
  have e1 : partV 999 1500 10000 = 149 := by decide +kernel
  have e2 : partE 999 1500 10000 = 0 := by decide +kernel
  rw [e1, e2] at H
  clear e1 e2
  go_enter Try.func15, Try.ntmps15
  go_wp2_with fail
  refine (H.out _).mono ?_
  rintro e w2 ⟨rfl, nn, rfl⟩
  go_wp2_with fail
  go_ret
  exact ⟨by simp, nn, rfl⟩

theorem refright_any (a : Int) (w : World) : Calls Try.prog 21 #[.int .i64 a] w fun e w' => e = .returned (.bool (rt a)) ∧ w = w' := by
  by_cases h1 : -1125899906842624 ≤ a
  · by_cases h2 : a ≤ 1125899906842624
    · have h : rt a = true := rt_iff.2 ⟨h1, h2⟩
      go_enter Try.func21, Try.ntmps21
      go_wp2
      go_ret
      exact ⟨by simp [h], rfl⟩
    · have h : rt a = false := rt_not.2 (by omega)
      go_enter Try.func21, Try.ntmps21
      go_wp2
      go_ret
      exact ⟨by simp, rfl⟩
  · have h : rt a = false := rt_not.2 (by omega)
    go_enter Try.func21, Try.ntmps21
    go_wp2
    go_ret
    exact ⟨by simp, rfl⟩

def toldB (x e want : Int) : Bool := if rt want = true then (x == want && e == 0) else (x == 0 && e == 9)
theorem toldlaw_any (x e want : Int) (w : World) : Calls Try.prog 23 #[.int .i64 x, .int .i64 e, .int .i64 want] w fun r w' => r = .returned (.bool (toldB x e want)) ∧ w = w' := by
  cases h : rt want
  all_goals
    go_enter Try.func23, Try.ntmps23
    go_wp2_with (go_at_call 21; refine (refright_any _ _).mono ?_; rintro e w' ⟨rfl, rfl⟩)
    all_goals
      go_ret
      exact ⟨by simp [toldB, *], rfl⟩

end Go.Proofs.Yteeiiahmhmbepaa.Led
