/- cents.Part at every input; the law CentsParts. -/
import Derived.Test.YteeiiahmhmbepaaCenD
import Derived.Test.YteeiiahmhmbepaaCenP
set_option linter.unusedVariables false
namespace Go.Proofs.Yteeiiahmhmbepaa.Led
open Go.RowKit

theorem part_high (a n o : Int) (w : World) (ha : monB a = true) (hp : partB a n o = true) (hhi : 18446744073709551616 ≤ a * n) (ho : o ≤ 9223372036854775807) :
    Calls Try.prog 16 #[.int .i64 a, .int .i64 n, .int .i64 o] w fun e w' => e = .returned (.tuple #[.int .i64 (partV a n o), .int .i64 (partE a n o)]) ∧ ∃ n, w' = w.drewN n := by
  have e1 : partV a n o = a * n / o := by simp [partV, ha, hp]
  have e2 : partE a n o = 0 := by simp [partE, ha, hp]
  rw [e1, e2]
  obtain ⟨a0, a1⟩ := monB_iff.1 ha
  obtain ⟨o1, n0, n1⟩ := partB_iff.1 hp
  clear e1 e2 ha hp
  obtain ⟨a, rfl⟩ := Int.eq_ofNat_of_zero_le a0
  obtain ⟨n, rfl⟩ := Int.eq_ofNat_of_zero_le n0
  obtain ⟨o, rfl⟩ := Int.eq_ofNat_of_zero_le (show 0 ≤ o by omega)
  have hN : a * n ≤ 1125899906842624 * o := Nat.mul_le_mul (by omega) (by omega)
  have hHi : 18446744073709551616 ≤ a * n := by rw [← Int.natCast_mul] at hhi; omega
  have eI : (a : Int) * n / o = ((a * n / o : Nat) : Int) := by push_cast; rfl
  have hq1 : a * n / o ≤ 1125899906842624 := by
    have := Nat.div_le_div_right (c := o) hN
    rw [Nat.mul_div_cancel _ (by omega)] at this
    exact this
  rw [eI]
  have Hm : Hid (∀ w, Calls Try.prog 39 #[.int .u64 a, .int .u64 n] w fun e w' => e = .returned (.tuple #[.int .u64 (a * n / 18446744073709551616 : Nat), .int .u64 (a * n % 18446744073709551616 : Nat)]) ∧ w' = w) := by
    refine Lib.hid ?_
    intro w
    exact Try.bits_Mul64 a n (by omega) (by omega) w
  have hDe : a * n / 18446744073709551616 * 18446744073709551616 + a * n % 18446744073709551616 = a * n := by omega
  have h1 : 0 < a * n / 18446744073709551616 := by omega
  have h2 : a * n / 18446744073709551616 < o := by omega
  have h3 : a * n % 18446744073709551616 < 18446744073709551616 := by omega
  have Hd := Lib.hid (fun w => div_any _ _ o w h1 h2 (by omega) h3)
  rw [hDe] at Hd
  clear eI hhi hHi hDe hN h1 h2 h3
  generalize a * n / 18446744073709551616 = hi at *
  generalize a * n % 18446744073709551616 = lo at *
  generalize a * n / o = q at *
  go_enter Try.func16, Try.ntmps16
  go_wp2_with fail
  refine (Hm.out _).mono ?_
  rintro e w' ⟨rfl, rfl⟩
  go_wp2_with fail
  refine (Hd.out _).mono ?_
  rintro e w2 ⟨⟨r, rfl⟩, nn, rfl⟩
  go_wp2_with fail
  go_ret2
  exact ⟨by simp, nn, rfl⟩

theorem part_any (a n o : Int) (w : World) (ho : o ≤ 9223372036854775807) :
    Calls Try.prog 16 #[.int .i64 a, .int .i64 n, .int .i64 o] w fun e w' => e = .returned (.tuple #[.int .i64 (partV a n o), .int .i64 (partE a n o)]) ∧ ∃ n, w' = w.drewN n := by
  cases hm : monB a
  · exact part_bad a n o w (.inl hm)
  · cases hp : partB a n o
    · exact part_bad a n o w (.inr hp)
    · by_cases h : a * n < 18446744073709551616
      · exact part_low a n o w hm hp h ho
      · exact part_high a n o w hm hp (by omega) ho

theorem part_ok {a n o : Int} (h : partE a n o = 0) : 0 ≤ partV a n o ∧ partV a n o ≤ a := by
  unfold partE at h
  split at h
  · rename_i h1
    split at h
    · rename_i h2
      obtain ⟨a0, a1⟩ := monB_iff.1 h1
      obtain ⟨o1, n0, n1⟩ := partB_iff.1 h2
      simp only [partV, h1, h2, if_true]
      have hle : 0 ≤ a * n := Int.mul_nonneg a0 n0
      refine ⟨Int.ediv_nonneg hle (by omega), ?_⟩
      have h1 : a * n ≤ a * o := Int.mul_le_mul_of_nonneg_left n1 a0
      have h2 : a * n / o ≤ a * o / o := Int.ediv_le_ediv (by omega) h1
      rw [Int.mul_ediv_cancel _ (by omega)] at h2
      omega
    · simp at h
  · simp at h

theorem below_drewN (B : Nat) (w : World) (n : Nat) : Below B w (w.drewN n) := ⟨rfl, rfl, rfl, Nat.le_refl _, fun _ _ => rfl⟩

theorem parts_law (a n o p : Int) (w : World) (ho : o ≤ 9223372036854775807) :
    Calls Try.prog 3 #[.int .i64 a, .int .i64 n, .int .i64 o, .int .i64 p] w fun e w' => e = .returned (.bool true) ∧ Below w.heap.size w w' := by
  have P1 := Lib.hid (fun w => part_any a n o w ho)
  have P2 := Lib.hid (fun w => refpart_any a n o w ho)
  have P3 := Lib.hid (fun w => points_any a p w)
  have P4 := Lib.hid (fun w => refpart_any a p 10000 w (by omega))
  have hok := fun h => part_ok (a := a) (n := n) (o := o) h
  generalize partV a n o = v at *
  generalize partE a n o = x at *
  generalize partV a p 10000 = v2 at *
  generalize partE a p 10000 = x2 at *
  have HK := Lib.hid hok
  clear hok
  cases hx : (x == 0)
  · have hx' : (x != 0) = true := by simpa using hx
    go_enter Try.func3, Try.ntmps3
    go_wp2_with fail
    refine (awake05 _).mono ?_
    rintro e w1 ⟨rfl, n1, rfl⟩
    go_wp2_with fail
    refine (P1.out _).mono ?_
    rintro e w2 ⟨rfl, n2, rfl⟩
    go_wp2_with fail
    refine (P2.out _).mono ?_
    rintro e w3 ⟨rfl, rfl⟩
    go_wp2_with fail
    refine (P3.out _).mono ?_
    rintro e w4 ⟨rfl, n3, rfl⟩
    go_wp2_with fail
    refine (P4.out _).mono ?_
    rintro e w5 ⟨rfl, rfl⟩
    go_wp2_with fail
    go_ret
    exact ⟨by simp, below_drewN _ _ _⟩
  · have hx' : (x != 0) = false := by simpa using hx
    obtain ⟨v0, v1⟩ := HK.out (by simpa using hx)
    go_enter Try.func3, Try.ntmps3
    go_wp2_with fail
    refine (awake05 _).mono ?_
    rintro e w1 ⟨rfl, n1, rfl⟩
    go_wp2_with fail
    refine (P1.out _).mono ?_
    rintro e w2 ⟨rfl, n2, rfl⟩
    go_wp2_with fail
    refine (P2.out _).mono ?_
    rintro e w3 ⟨rfl, rfl⟩
    go_wp2_with fail
    refine (P3.out _).mono ?_
    rintro e w4 ⟨rfl, n3, rfl⟩
    go_wp2_with fail
    refine (P4.out _).mono ?_
    rintro e w5 ⟨rfl, rfl⟩
    go_wp2_with fail
    go_ret
    exact ⟨by simp, below_drewN _ _ _⟩

end Go.Proofs.Yteeiiahmhmbepaa.Led
