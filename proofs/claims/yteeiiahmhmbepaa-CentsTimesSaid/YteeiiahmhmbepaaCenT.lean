/- The law CentsTimes, walked: a sum so many times is what it is, added up, or refused. -/
import Derived.Test.YteeiiahmhmbepaaCen
set_option linter.unusedVariables false
namespace Go.Proofs.Yteeiiahmhmbepaa.Led
open Go.RowKit

theorem size_any (a : Int) (w : World) (h0 : -9223372036854775808 ≤ a) (h1 : a ≤ 9223372036854775807) : Calls Try.prog 43 #[.int .i64 a] w fun e w' => e = .returned (.int .u64 a.natAbs) ∧ w = w' := by
  by_cases hn : a < 0
  · obtain ⟨n, hnat⟩ := Int.eq_ofNat_of_zero_le (show 0 ≤ -a by omega)
    obtain rfl : a = -(n : Int) := by omega
    have e1 : (-(n : Int)).natAbs = n := by omega
    rw [e1]
    have w1 : IntKind.u64.wrap (-(n : Int)) = 18446744073709551616 - n := by simp [IntKind.wrap, IntKind.signed, IntKind.bits]; omega
    have w2 : IntKind.u64.wrap (-(18446744073709551616 - (n : Int))) = n := by simp [IntKind.wrap, IntKind.signed, IntKind.bits]; omega
    clear e1 hnat
    go_enter Try.func43, Try.ntmps43
    go_wp2
    go_ret
    exact ⟨by simp, rfl⟩
  · obtain ⟨n, rfl⟩ := Int.eq_ofNat_of_zero_le (show 0 ≤ a by omega)
    have e1 : ((n : Int)).natAbs = n := by omega
    rw [e1]
    clear e1
    go_enter Try.func43, Try.ntmps43
    go_wp2
    go_ret
    exact ⟨by simp, rfl⟩

def tmB (a n : Int) : Bool := rt a && rt (a * n)
def tmV (a n : Int) : Int := if tmB a n = true then a * n else 0
def tmE (a n : Int) : Int := if tmB a n = true then 0 else 9

theorem natAbs_rt (z : Int) : rt z = true ↔ z.natAbs ≤ 1125899906842624 := by
  rw [rt_iff]
  omega

theorem times_any (a n : Int) (w : World) (n0 : -9223372036854775808 ≤ n) (n1 : n ≤ 9223372036854775807) :
    Calls Try.prog 24 #[.int .i64 a, .int .i64 n] w fun e w' => e = .returned (.tuple #[.int .i64 (tmV a n), .int .i64 (tmE a n)]) ∧ w = w' := by
  cases ha : rt a
  · have e1 : tmV a n = 0 := by simp [tmV, tmB, ha]
    have e2 : tmE a n = 9 := by simp [tmE, tmB, ha]
    rw [e1, e2]
    clear e1 e2
    go_enter Try.func24, Try.ntmps24
    go_wp2_with (first | (go_at_call 22; refine (right_any _ _).mono ?_; rintro e w' ⟨rfl, rfl⟩))
    go_ret2
    exact ⟨by simp, rfl⟩
  · obtain ⟨a0, a1⟩ := rt_iff.1 ha
    have hm := natAbs_rt (a * n)
    have hab := Int.natAbs_mul a n
    have S1 := Lib.hid (fun w => size_any a w (by omega) (by omega))
    have S2 := Lib.hid (fun w => size_any n w n0 n1)
    have M := Lib.hid (Try.bits_Mul64 a.natAbs n.natAbs (by omega) (by omega))
    rw [← hab] at M
    have hz1 : 0 ≤ a → 0 ≤ n → a * n = ((a * n).natAbs : Int) := fun h1 h2 => by have := Int.mul_nonneg h1 h2; omega
    have hz2 : a < 0 → n < 0 → a * n = ((a * n).natAbs : Int) := fun h1 h2 => by have := Int.mul_pos_of_neg_of_neg h1 h2; omega
    have hz3 : 0 ≤ a → n < 0 → a * n = -((a * n).natAbs : Int) := fun h1 h2 => by have := Int.mul_nonpos_of_nonneg_of_nonpos h1 (by omega : n ≤ 0); omega
    have hz4 : a < 0 → 0 ≤ n → a * n = -((a * n).natAbs : Int) := fun h1 h2 => by have := Int.mul_nonpos_of_nonpos_of_nonneg (by omega : a ≤ 0) h2; omega
    cases hp : rt (a * n)
    · have e1 : tmV a n = 0 := by simp [tmV, tmB, hp]
      have e2 : tmE a n = 9 := by simp [tmE, tmB, hp]
      rw [e1, e2]
      have hbig : ¬ (a * n).natAbs ≤ 1125899906842624 := fun h => by rw [hm.2 h] at hp; exact Bool.noConfusion hp
      clear e1 e2 hm hz1 hz2 hz3 hz4 hp hab
      generalize (a * n).natAbs = q at *
      by_cases hi : q < 18446744073709551616
      · rw [Nat.div_eq_of_lt hi, Nat.mod_eq_of_lt hi] at M
        have hq : (1125899906842624 : Int) < q := by omega
        clear hbig
        by_cases hna : a < 0 <;> by_cases hnn : n < 0
        all_goals
          go_enter Try.func24, Try.ntmps24
          go_wp2_with fail
          refine (right_any _ _).mono ?_
          rintro e w' ⟨rfl, rfl⟩
          go_wp2_with fail
          refine (S1.out _).mono ?_
          rintro e w' ⟨rfl, rfl⟩
          go_wp2_with fail
          refine (S2.out _).mono ?_
          rintro e w' ⟨rfl, rfl⟩
          go_wp2_with fail
          refine (M.out _).mono ?_
          rintro e w' ⟨rfl, rfl⟩
          go_wp2_with fail
          go_ret2
          exact ⟨by simp, rfl⟩
      · have hq : (0 : Int) < ((q / 18446744073709551616 : Nat) : Int) := by have := Nat.div_pos (Nat.le_of_not_lt hi) (by omega); omega
        clear hbig hi
        generalize q / 18446744073709551616 = h at *
        generalize q % 18446744073709551616 = l at *
        by_cases hna : a < 0 <;> by_cases hnn : n < 0
        all_goals
          go_enter Try.func24, Try.ntmps24
          go_wp2_with fail
          refine (right_any _ _).mono ?_
          rintro e w' ⟨rfl, rfl⟩
          go_wp2_with fail
          refine (S1.out _).mono ?_
          rintro e w' ⟨rfl, rfl⟩
          go_wp2_with fail
          refine (S2.out _).mono ?_
          rintro e w' ⟨rfl, rfl⟩
          go_wp2_with fail
          refine (M.out _).mono ?_
          rintro e w' ⟨rfl, rfl⟩
          go_wp2_with fail
          go_ret2
          exact ⟨by simp, rfl⟩
    · have e1 : tmV a n = a * n := by simp [tmV, tmB, ha, hp]
      have e2 : tmE a n = 0 := by simp [tmE, tmB, ha, hp]
      rw [e1, e2]
      have hsm := hm.1 hp
      clear e1 e2 hm hp hab
      rw [Nat.div_eq_of_lt (by omega), Nat.mod_eq_of_lt (by omega)] at M
      generalize hzz : a * n = z at *
      generalize z.natAbs = q at *
      clear hzz
      by_cases hna : a < 0 <;> by_cases hnn : n < 0
      · obtain rfl := hz2 hna hnn
        clear hz1 hz2 hz3 hz4
        have d1 : decide (a < 0) = true := by simp; omega
        have d2 : decide (n < 0) = true := by simp; omega
        go_enter Try.func24, Try.ntmps24
        go_wp2_with fail
        refine (right_any _ _).mono ?_
        rintro e w' ⟨rfl, rfl⟩
        go_wp2_with fail
        refine (S1.out _).mono ?_
        rintro e w' ⟨rfl, rfl⟩
        go_wp2_with fail
        refine (S2.out _).mono ?_
        rintro e w' ⟨rfl, rfl⟩
        go_wp2_with fail
        refine (M.out _).mono ?_
        rintro e w' ⟨rfl, rfl⟩
        go_wp2_with fail
        go_ret2
        exact ⟨by simp, rfl⟩
      · obtain rfl := hz4 hna (by omega)
        clear hz1 hz2 hz3 hz4
        have d1 : decide (a < 0) = true := by simp; omega
        have d2 : decide (n < 0) = false := by simp; omega
        go_enter Try.func24, Try.ntmps24
        go_wp2_with fail
        refine (right_any _ _).mono ?_
        rintro e w' ⟨rfl, rfl⟩
        go_wp2_with fail
        refine (S1.out _).mono ?_
        rintro e w' ⟨rfl, rfl⟩
        go_wp2_with fail
        refine (S2.out _).mono ?_
        rintro e w' ⟨rfl, rfl⟩
        go_wp2_with fail
        refine (M.out _).mono ?_
        rintro e w' ⟨rfl, rfl⟩
        go_wp2_with fail
        go_ret2
        exact ⟨by simp, rfl⟩
      · obtain rfl := hz3 (by omega) hnn
        clear hz1 hz2 hz3 hz4
        have d1 : decide (a < 0) = false := by simp; omega
        have d2 : decide (n < 0) = true := by simp; omega
        go_enter Try.func24, Try.ntmps24
        go_wp2_with fail
        refine (right_any _ _).mono ?_
        rintro e w' ⟨rfl, rfl⟩
        go_wp2_with fail
        refine (S1.out _).mono ?_
        rintro e w' ⟨rfl, rfl⟩
        go_wp2_with fail
        refine (S2.out _).mono ?_
        rintro e w' ⟨rfl, rfl⟩
        go_wp2_with fail
        refine (M.out _).mono ?_
        rintro e w' ⟨rfl, rfl⟩
        go_wp2_with fail
        go_ret2
        exact ⟨by simp, rfl⟩
      · obtain rfl := hz1 (by omega) (by omega)
        clear hz1 hz2 hz3 hz4
        have d1 : decide (a < 0) = false := by simp; omega
        have d2 : decide (n < 0) = false := by simp; omega
        go_enter Try.func24, Try.ntmps24
        go_wp2_with fail
        refine (right_any _ _).mono ?_
        rintro e w' ⟨rfl, rfl⟩
        go_wp2_with fail
        refine (S1.out _).mono ?_
        rintro e w' ⟨rfl, rfl⟩
        go_wp2_with fail
        refine (S2.out _).mono ?_
        rintro e w' ⟨rfl, rfl⟩
        go_wp2_with fail
        refine (M.out _).mono ?_
        rintro e w' ⟨rfl, rfl⟩
        go_wp2_with fail
        go_ret2
        exact ⟨by simp, rfl⟩

end Go.Proofs.Yteeiiahmhmbepaa.Led
