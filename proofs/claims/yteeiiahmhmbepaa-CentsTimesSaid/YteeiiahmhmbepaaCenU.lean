/- The law CentsTimes, walked: it answers true at every sum and every number of times. -/
import Derived.Test.YteeiiahmhmbepaaCenT
set_option linter.unusedVariables false
namespace Go.Proofs.Yteeiiahmhmbepaa.Led
open Go.RowKit

theorem below_draws2 (B : Nat) (w : World) (n : Nat) : Below B w (w.drewN n) := ⟨rfl, rfl, rfl, Nat.le_refl _, fun _ _ => rfl⟩

theorem tmod2 (n : Int) : n.tmod 2 = -1 ∨ n.tmod 2 = 0 ∨ n.tmod 2 = 1 := by
  rcases Int.le_total 0 n with h | h
  · rw [Int.tmod_eq_emod_of_nonneg h]
    omega
  · have e : n.tmod 2 = -((-n).tmod 2) := by rw [← Int.neg_tmod, Int.neg_neg]
    rw [e, Int.tmod_eq_emod_of_nonneg (by omega)]
    omega

theorem rest_any (a n : Int) (w : World) (ha : rt a = true) : Calls Try.prog 25 #[.int .i64 a, .int .i64 n] w fun e w' => e = .returned (.int .i64 (a * n.tmod 2)) ∧ w = w' := by
  obtain ⟨a0, a1⟩ := rt_iff.1 ha
  have h := tmod2 n
  have hb : -1125899906842624 ≤ a * n.tmod 2 ∧ a * n.tmod 2 ≤ 1125899906842624 := by rcases h with h | h | h <;> rw [h] <;> omega
  obtain ⟨b0, b1⟩ := hb
  clear h ha
  go_enter Try.func25, Try.ntmps25
  go_wp2
  go_ret
  exact ⟨by simp, rfl⟩

theorem tmul (a n : Int) : 2 * (a * n.tdiv 2) + a * n.tmod 2 = a * n := by
  have h := Int.mul_tdiv_add_tmod n 2
  have : a * (2 * n.tdiv 2 + n.tmod 2) = a * n := by rw [h]
  rw [← this, Int.mul_add, ← Int.mul_assoc, ← Int.mul_assoc, Int.mul_comm a 2]

theorem times_law (a n : Int) (w : World) (n0 : -9223372036854775808 ≤ n) (n1 : n ≤ 9223372036854775807) :
    Calls Try.prog 5 #[.int .i64 a, .int .i64 n] w fun e w' => e = .returned (.bool true) ∧ Below w.heap.size w w' := by
  have T1 := Lib.hid (fun w => times_any a n w n0 n1)
  cases ha : rt a
  · have e1 : tmV a n = 0 := by simp [tmV, tmB, ha]
    have e2 : tmE a n = 9 := by simp [tmE, tmB, ha]
    rw [e1, e2] at T1
    clear e1 e2
    go_enter Try.func5, Try.ntmps5
    go_wp2_with (first | (go_at_call 15; refine (awake05 _).mono ?_; rintro e w' ⟨rfl, n, rfl⟩) | (go_at_call 24; refine (T1.out _).mono ?_; rintro e w' ⟨rfl, rfl⟩) | (go_at_call 21; refine (refright_any _ _).mono ?_; rintro e w' ⟨rfl, rfl⟩))
    go_ret
    exact ⟨by simp, below_draws2 _ _ _⟩
  · obtain ⟨a0, a1⟩ := rt_iff.1 ha
    by_cases hz : a = 0 ∨ n = 0
    · have hz' : a * n = 0 := by rcases hz with rfl | rfl <;> simp
      have hr : rt (a * n) = true := by rw [hz']; decide
      have e1 : tmV a n = 0 := by simp [tmV, tmB, ha, hz']
      have e2 : tmE a n = 0 := by simp [tmE, tmB, ha, hr]
      rw [e1, e2] at T1
      clear e1 e2 hr hz' 
      by_cases hza : a = 0
      · subst hza
        go_enter Try.func5, Try.ntmps5
        go_wp2_with (first | (go_at_call 15; refine (awake05 _).mono ?_; rintro e w' ⟨rfl, n, rfl⟩) | (go_at_call 24; refine (T1.out _).mono ?_; rintro e w' ⟨rfl, rfl⟩) | (go_at_call 21; refine (refright_any _ _).mono ?_; rintro e w' ⟨rfl, rfl⟩))
        go_ret
        exact ⟨by simp, below_draws2 _ _ _⟩
      · obtain rfl : n = 0 := by omega
        go_enter Try.func5, Try.ntmps5
        go_wp2_with (first | (go_at_call 15; refine (awake05 _).mono ?_; rintro e w' ⟨rfl, n, rfl⟩) | (go_at_call 24; refine (T1.out _).mono ?_; rintro e w' ⟨rfl, rfl⟩) | (go_at_call 21; refine (refright_any _ _).mono ?_; rintro e w' ⟨rfl, rfl⟩))
        go_ret
        exact ⟨by simp, below_draws2 _ _ _⟩
    · have hza : (a == 0) = false := by simp; omega
      have hzn : (n == 0) = false := by simp; omega
      cases hp : rt (a * n)
      · have e1 : tmV a n = 0 := by simp [tmV, tmB, hp]
        have e2 : tmE a n = 9 := by simp [tmE, tmB, hp]
        rw [e1, e2] at T1
        have hb : -9223372036854775808 ≤ n.tdiv 2 ∧ n.tdiv 2 ≤ 9223372036854775807 := by have := Int.mul_tdiv_add_tmod n 2; have := tmod2 n; omega
        have T2 := Lib.hid (fun w => times_any a (n.tdiv 2) w hb.1 hb.2)
        have hmul := tmul a n
        have R := Lib.hid (fun w => rest_any a n w ha)
        cases hq : rt (a * n.tdiv 2)
        · have e3 : tmV a (n.tdiv 2) = 0 := by simp [tmV, tmB, hq]
          have e4 : tmE a (n.tdiv 2) = 9 := by simp [tmE, tmB, hq]
          rw [e3, e4] at T2
          clear e1 e2 e3 e4 hmul R hp hq hz
          obtain ⟨hb0, hb1⟩ := hb
          go_enter Try.func5, Try.ntmps5
          go_wp2_with fail
          refine (awake05 _).mono ?_
          rintro e w' ⟨rfl, nn, rfl⟩
          go_wp2_with fail
          refine (T1.out _).mono ?_
          rintro e w' ⟨rfl, rfl⟩
          go_wp2_with fail
          refine (refright_any _ _).mono ?_
          rintro e w' ⟨rfl, rfl⟩
          go_wp2_with fail
          refine (T2.out _).mono ?_
          rintro e w' ⟨rfl, rfl⟩
          go_wp2_with fail
          go_ret
          exact ⟨by simp, below_draws2 _ _ _⟩
        · have e3 : tmV a (n.tdiv 2) = a * n.tdiv 2 := by simp [tmV, tmB, ha, hq]
          have e4 : tmE a (n.tdiv 2) = 0 := by simp [tmE, tmB, ha, hq]
          rw [e3, e4] at T2
          obtain ⟨q0, q1⟩ := rt_iff.1 hq
          have hrest : -1125899906842624 ≤ a * n.tmod 2 ∧ a * n.tmod 2 ≤ 1125899906842624 := by rcases tmod2 n with h | h | h <;> rw [h] <;> omega
          obtain ⟨r0, r1⟩ := hrest
          have F := Lib.hid (refright_any (2 * (a * n.tdiv 2) + a * n.tmod 2))
          rw [hmul, hp, ← hmul] at F
          clear e1 e2 e3 e4 hmul hp hq hz
          obtain ⟨hb0, hb1⟩ := hb
          generalize a * n.tdiv 2 = y at *
          generalize a * n.tmod 2 = r at *
          go_enter Try.func5, Try.ntmps5
          go_wp2_with fail
          refine (awake05 _).mono ?_
          rintro e w' ⟨rfl, nn, rfl⟩
          go_wp2_with fail
          refine (T1.out _).mono ?_
          rintro e w' ⟨rfl, rfl⟩
          go_wp2_with fail
          refine (refright_any _ _).mono ?_
          rintro e w' ⟨rfl, rfl⟩
          go_wp2_with fail
          refine (T2.out _).mono ?_
          rintro e w' ⟨rfl, rfl⟩
          go_wp2_with fail
          refine (R.out _).mono ?_
          rintro e w' ⟨rfl, rfl⟩
          go_wp2_with fail
          refine (F.out _).mono ?_
          rintro e w' ⟨rfl, rfl⟩
          go_wp2_with fail
          go_ret
          exact ⟨by simp, below_draws2 _ _ _⟩
      · have e1 : tmV a n = a * n := by simp [tmV, tmB, ha, hp]
        have e2 : tmE a n = 0 := by simp [tmE, tmB, ha, hp]
        rw [e1, e2] at T1
        obtain ⟨q0, q1⟩ := rt_iff.1 hp
        have m1 : (a * n).tmod a = 0 := Int.mul_tmod_right a n
        have m2 : (a * n).tdiv a = n := Int.mul_tdiv_cancel_left n (by omega)
        have F := Lib.hid (refright_any (a * n))
        rw [hp] at F
        have hne : ¬ a = 0 := by omega
        clear e1 e2 hp hz
        generalize a * n = x at *
        go_enter Try.func5, Try.ntmps5
        go_wp2_with fail
        refine (awake05 _).mono ?_
        rintro e w' ⟨rfl, nn, rfl⟩
        go_wp2_with fail
        refine (T1.out _).mono ?_
        rintro e w' ⟨rfl, rfl⟩
        go_wp2_with fail
        refine (refright_any _ _).mono ?_
        rintro e w' ⟨rfl, rfl⟩
        go_wp2_with fail
        refine (F.out _).mono ?_
        rintro e w' ⟨rfl, rfl⟩
        go_wp2_with fail
        go_ret
        exact ⟨by simp, below_draws2 _ _ _⟩

end Go.Proofs.Yteeiiahmhmbepaa.Led
