/- The law CentsSums, walked: it answers true, whatever is added and taken away. -/
import Derived.Test.YteeiiahmhmbepaaCen
set_option linter.unusedVariables false
namespace Go.Proofs.Yteeiiahmhmbepaa.Led
open Go.RowKit

theorem below_draws (B : Nat) (w : World) (n : Nat) : Below B w (w.drewN n) := ⟨rfl, rfl, rfl, Nat.le_refl _, fun _ _ => rfl⟩

theorem told_self (z : Int) : toldB (tv z) (te z) z = true := by
  cases h : rt z <;> simp [toldB, tv, te, h]

theorem sums_any (a b : Int) (w : World) : Calls Try.prog 4 #[.int .i64 a, .int .i64 b] w fun e w' => e = .returned (.bool true) ∧ Below w.heap.size w w' := by
  have Ha := Lib.hid (add_any a b)
  have Hs := Lib.hid (sub_any a b)
  have t1 := told_self (a + b)
  have t2 := told_self (a - b)
  cases ha : rt a
  · have e1 : addv a b = 0 := by simp [addv, ok2, ha]
    have e2 : adde a b = 9 := by simp [adde, ok2, ha]
    have e3 : subv a b = 0 := by simp [subv, ok2, ha]
    have e4 : sube a b = 9 := by simp [sube, ok2, ha]
    rw [e1, e2] at Ha
    rw [e3, e4] at Hs
    clear e1 e2 e3 e4 t1 t2
    go_enter Try.func4, Try.ntmps4
    go_wp2_with (first | (go_at_call 15; refine (awake05 _).mono ?_; rintro e w' ⟨rfl, n, rfl⟩) | (go_at_call 19; refine (Ha.out _).mono ?_; rintro e w' ⟨rfl, rfl⟩) | (go_at_call 20; refine (Hs.out _).mono ?_; rintro e w' ⟨rfl, rfl⟩) | (go_at_call 21; refine (refright_any _ _).mono ?_; rintro e w' ⟨rfl, rfl⟩) | (go_at_call 22; refine (right_any _ _).mono ?_; rintro e w' ⟨rfl, rfl⟩))
    go_ret
    exact ⟨by simp, below_draws _ _ _⟩
  · cases hb : rt b
    · have e1 : addv a b = 0 := by simp [addv, ok2, hb]
      have e2 : adde a b = 9 := by simp [adde, ok2, hb]
      have e3 : subv a b = 0 := by simp [subv, ok2, hb]
      have e4 : sube a b = 9 := by simp [sube, ok2, hb]
      rw [e1, e2] at Ha
      rw [e3, e4] at Hs
      clear e1 e2 e3 e4 t1 t2
      go_enter Try.func4, Try.ntmps4
      go_wp2_with (first | (go_at_call 15; refine (awake05 _).mono ?_; rintro e w' ⟨rfl, n, rfl⟩) | (go_at_call 19; refine (Ha.out _).mono ?_; rintro e w' ⟨rfl, rfl⟩) | (go_at_call 20; refine (Hs.out _).mono ?_; rintro e w' ⟨rfl, rfl⟩) | (go_at_call 21; refine (refright_any _ _).mono ?_; rintro e w' ⟨rfl, rfl⟩) | (go_at_call 22; refine (right_any _ _).mono ?_; rintro e w' ⟨rfl, rfl⟩))
      go_ret
      exact ⟨by simp, below_draws _ _ _⟩
    · have e1 : addv a b = tv (a + b) := by simp [addv, ok2, ha, hb]
      have e2 : adde a b = te (a + b) := by simp [adde, ok2, ha, hb]
      have e3 : subv a b = tv (a - b) := by simp [subv, ok2, ha, hb]
      have e4 : sube a b = te (a - b) := by simp [sube, ok2, ha, hb]
      rw [e1, e2] at Ha
      rw [e3, e4] at Hs
      obtain ⟨hA0, hA1⟩ := rt_iff.1 ha
      obtain ⟨hB0, hB1⟩ := rt_iff.1 hb
      have T1 := Lib.hid (toldlaw_any (tv (a + b)) (te (a + b)) (a + b))
      have T2 := Lib.hid (toldlaw_any (tv (a - b)) (te (a - b)) (a - b))
      rw [t1] at T1
      rw [t2] at T2
      clear e1 e2 e3 e4 t1 t2
      generalize tv (a + b) = v1 at *
      generalize tv (a - b) = v2 at *
      generalize te (a + b) = x1 at *
      generalize te (a - b) = x2 at *
      go_enter Try.func4, Try.ntmps4
      go_wp2_with fail
      refine (awake05 _).mono ?_
      rintro e w' ⟨rfl, n, rfl⟩
      go_wp2_with fail
      refine (Ha.out _).mono ?_
      rintro e w' ⟨rfl, rfl⟩
      go_wp2_with fail
      refine (Hs.out _).mono ?_
      rintro e w' ⟨rfl, rfl⟩
      go_wp2_with fail
      refine (refright_any _ _).mono ?_
      rintro e w' ⟨rfl, rfl⟩
      go_wp2_with fail
      refine (refright_any _ _).mono ?_
      rintro e w' ⟨rfl, rfl⟩
      go_wp2_with fail
      refine (right_any _ _).mono ?_
      rintro e w' ⟨rfl, rfl⟩
      go_wp2_with fail
      refine (T1.out _).mono ?_
      rintro e w' ⟨rfl, rfl⟩
      go_wp2_with fail
      refine (T2.out _).mono ?_
      rintro e w' ⟨rfl, rfl⟩
      go_wp2_with fail
      go_ret
      exact ⟨by simp, below_draws _ _ _⟩

end Go.Proofs.Yteeiiahmhmbepaa.Led
