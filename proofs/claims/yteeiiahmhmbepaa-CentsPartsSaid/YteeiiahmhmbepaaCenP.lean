/- The reference's long division, walked; the law CentsParts. -/
import Derived.Test.YteeiiahmhmbepaaCen
import Derived.LoopTactic
import Derived.Lib.RabinKarpLaws
import Derived.Outline
set_option linter.unusedVariables false
namespace Go.Proofs.Yteeiiahmhmbepaa.Led
open Go.RowKit

/-- One step of the long division. -/
theorem more_any (r x o q : Int) (w : World) (hr0 : 0 ≤ r) (hr : r < o) (hx0 : 0 ≤ x) (hx : x ≤ o) (ho : o ≤ 9223372036854775807) (hq0 : 0 ≤ q) (hq : q ≤ 4503599627370496) :
    Calls Try.prog 49 #[.int .u64 r, .int .u64 x, .int .u64 o, .int .u64 q] w fun e w' => e = .returned (.tuple #[.int .u64 (if o ≤ r + x then r + x - o else r + x), .int .u64 (if o ≤ r + x then q + 1 else q)]) ∧ w = w' := by
  by_cases h : o ≤ r + x
  · rw [if_pos h, if_pos h]
    have h' : o - r ≤ x := by omega
    go_enter Try.func49, Try.ntmps49
    go_wp2
    go_ret2
    exact ⟨by simp; omega, rfl⟩
  · rw [if_neg h, if_neg h]
    have h' : x < o - r := by omega
    go_enter Try.func49, Try.ntmps49
    go_wp2
    go_ret2
    exact ⟨by simp, rfl⟩

def stR (o r x : Nat) : Nat := if o ≤ r + x then r + x - o else r + x
def stQ (o r x q : Nat) : Nat := if o ≤ r + x then q + 1 else q
theorem st_eq (o r x q : Nat) : stQ o r x q * o + stR o r x = q * o + r + x := by
  unfold stQ stR
  split
  · rw [Nat.succ_mul]; omega
  · omega
theorem stR_lt {o r x : Nat} (hr : r < o) (hx : x ≤ o) : stR o r x < o := by unfold stR; split <;> omega
theorem stQ_le (o r x q : Nat) : stQ o r x q ≤ q + 1 := by unfold stQ; split <;> omega

theorem more_nat (r x o q : Nat) (w : World) (hr : r < o) (hx : x ≤ o) (ho : o ≤ 9223372036854775807) (hq : q ≤ 4503599627370496) :
    Calls Try.prog 49 #[.int .u64 r, .int .u64 x, .int .u64 o, .int .u64 q] w fun e w' => e = .returned (.tuple #[.int .u64 (stR o r x : Nat), .int .u64 (stQ o r x q : Nat)]) ∧ w = w' := by
  have h := more_any r x o q w (by omega) (by omega) (by omega) (by omega) (by omega) (by omega) (by omega)
  have e1 : ((stR o r x : Nat) : Int) = (if (o : Int) ≤ r + x then (r : Int) + x - o else r + x) := by unfold stR; split <;> split <;> omega
  have e2 : ((stQ o r x q : Nat) : Int) = (if (o : Int) ≤ r + x then (q : Int) + 1 else q) := by unfold stQ; split <;> split <;> omega
  rw [e1, e2]
  exact h

theorem z_le {z o m p n : Nat} (h : z * o + m = p * n) (hn : n ≤ o) (ho : 1 ≤ o) : z ≤ p := by
  have h1 : z * o ≤ p * o := by
    have := Nat.mul_le_mul_left p hn
    omega
  exact Nat.le_of_mul_le_mul_right h1 ho

theorem divided_any (a n o : Nat) (w : World) (ha : a ≤ 1125899906842624) (hn : n ≤ o) (ho : o ≤ 9223372036854775807) (ho1 : 1 ≤ o) :
    Calls Try.prog 41 #[.int .i64 a, .int .i64 n, .int .i64 o] w fun e w' => e = .returned (.tuple #[.int .i64 ((a * n / o : Nat) : Int), .int .u64 ((a * n % o : Nat) : Int)]) ∧ w = w' := by
  go_enter Try.func41, Try.ntmps41
  go_wp2
  go_loop [8, 9, 10] (fun q r i => ∃ (k : Nat) (z m : Nat), k ≤ 51 ∧ i = .int .i64 ((k : Int) - 1) ∧ q = .int .u64 z ∧ r = .int .u64 m ∧ m < o ∧ Hid (z * o + m = a / 2 ^ k * n)) (fun _ _ i => (intOf i + 1).toNat)
  case atStart => exact ⟨51, 0, 0, by omega, rfl, rfl, rfl, by omega, Lib.hid (by rw [Nat.div_eq_of_lt (by omega)]; simp)⟩
  case round =>
    obtain ⟨k, z, m, hk, rfl, rfl, rfl, hm, hR⟩ := hrel
    have hz : z ≤ 1125899906842624 := by
      have h1 := z_le hR.out hn ho1
      have h2 := Nat.div_le_self a (2 ^ k)
      omega
    by_cases hk0 : 0 < k
    · have hq1 := more_nat m m o (z * 2) w hm (by omega) ho (by omega)
      have g1 := stR_lt (o := o) (r := m) (x := m) hm (by omega)
      have g2 := stQ_le o m m (z * 2)
      have g3 := st_eq o m m (z * 2)
      generalize stR o m m = m1 at *
      generalize stQ o m m (z * 2) = z1 at *
      have hp : a / 2 ^ k = a / 2 ^ (k - 1) / 2 := by
        rw [Nat.div_div_eq_div_mul, ← Nat.pow_succ, show (k - 1).succ = k from by omega]
      have hpc : (a : Int) / 2 ^ (k - 1) = ((a / 2 ^ (k - 1) : Nat) : Int) := by push_cast; rfl
      have hple := Nat.div_le_self a (2 ^ (k - 1))
      have hR' := hR.out
      rw [hp] at hR'
      have hbit : bits BinOp.and IntKind.i64 ((a : Int) / 2 ^ (k - 1)) 1 = ((a / 2 ^ (k - 1) % 2 : Nat) : Int) := by
        rw [hpc]
        exact and_one _ (by omega)
      have e1 : 2 * (a / 2 ^ (k - 1) / 2) + a / 2 ^ (k - 1) % 2 = a / 2 ^ (k - 1) := by omega
      generalize hP : a / 2 ^ (k - 1) = P at *
      have e2 : 2 * (z * o + m) = 2 * (P / 2) * n := by rw [hR', Nat.mul_assoc]
      have G4 : Hid (z1 * o + m1 + P % 2 * n = P * n) := Lib.hid (by
        rw [g3, ← e1, Nat.add_mul, ← e2, Nat.mul_right_comm]
        rw [e1]
        omega)
      clear g3 hR hR' e1 e2 hp hpc hple
      have HP := Lib.hid hP
      have ek : ((k - 1 : Nat) : Int) = (k : Int) - 1 := by omega
      have EK := Lib.hid ek
      clear ek
      by_cases hb : P % 2 = 1
      · have hB : (bits BinOp.and IntKind.i64 ((a : Int) / 2 ^ (k - 1)) 1 == 1) = true := by rw [hbit, hb]; rfl
        rw [hb] at G4
        clear hbit hb hP
        have hq2 := more_nat m1 n o z1 w g1 hn ho (by omega)
        have j1 := stR_lt (o := o) (r := m1) (x := n) g1 hn
        have j3 := st_eq o m1 n z1
        generalize stR o m1 n = m2 at *
        generalize stQ o m1 n z1 = z2 at *
        have G5 : Hid (z2 * o + m2 = P * n) := Lib.hid (by have := G4.out; omega)
        clear j3 G4
        have Q1 := Lib.hid hq1
        have Q2 := Lib.hid hq2
        clear hq1 hq2
        go_wp2_with fail
        refine Q1.out.mono ?_
        rintro e w' ⟨rfl, rfl⟩
        go_wp2_with fail
        refine Q2.out.mono ?_
        rintro e w' ⟨rfl, rfl⟩
        go_wp2_with fail
        go_round
        case rel => exact ⟨k - 1, z2, m2, by omega, by rw [EK.out], rfl, rfl, j1, Lib.hid (by rw [HP.out]; exact G5.out)⟩
        case measure => simp [intOf]; omega
      · have hb0 : P % 2 = 0 := by omega
        have hB : (bits BinOp.and IntKind.i64 ((a : Int) / 2 ^ (k - 1)) 1 == 1) = false := by rw [hbit, hb0]; rfl
        rw [hb0] at G4
        have G5 : Hid (z1 * o + m1 = P * n) := Lib.hid (by have := G4.out; omega)
        clear hbit hb hP hb0 G4
        have Q1 := Lib.hid hq1
        clear hq1
        go_wp2_with fail
        refine Q1.out.mono ?_
        rintro e w' ⟨rfl, rfl⟩
        go_wp2_with fail
        go_round
        case rel => exact ⟨k - 1, z1, m1, by omega, by rw [EK.out], rfl, rfl, g1, Lib.hid (by rw [HP.out]; exact G5.out)⟩
        case measure => simp [intOf]; omega
    · obtain rfl : k = 0 := by omega
      have hR' := hR.out
      rw [Nat.pow_zero, Nat.div_one] at hR'
      have q1 : a * n / o = z := by
        rw [← hR', Nat.add_comm, Nat.add_mul_div_right _ _ ho1, Nat.div_eq_of_lt hm, Nat.zero_add]
      have q2 : a * n % o = m := by
        rw [← hR', Nat.add_comm, Nat.add_mul_mod_self_right, Nat.mod_eq_of_lt hm]
      have q3 : (a : Int) * n / o = z := by have := congrArg (fun x : Nat => (x : Int)) q1; push_cast at this; exact this
      have q4 : (a : Int) * n % o = m := by have := congrArg (fun x : Nat => (x : Int)) q2; push_cast at this; exact this
      have Q := Lib.hid (And.intro q3 q4)
      clear q1 q2 q3 q4 hR hR'
      go_wp2_with fail
      go_ret2
      exact ⟨by rw [Q.out.1, Q.out.2]; simp, rfl⟩

theorem refpart_any (a n o : Int) (w : World) (ho : o ≤ 9223372036854775807) :
    Calls Try.prog 17 #[.int .i64 a, .int .i64 n, .int .i64 o] w fun e w' => e = .returned (.tuple #[.int .i64 (partV a n o), .int .i64 (partE a n o)]) ∧ w = w' := by
  by_cases a0 : a < 0
  · have hm : monB a = false := by simp [monB]; omega
    have e1 : partV a n o = 0 := by simp [partV, hm]
    have e2 : partE a n o = 9 := by simp [partE, hm]
    rw [e1, e2]
    clear e1 e2 hm
    go_enter Try.func17, Try.ntmps17
    go_wp2
    go_ret2
    exact ⟨rfl, rfl⟩
  · by_cases a1 : a ≤ 1125899906842624
    · have hm : monB a = true := by simp [monB]; omega
      cases hp : partB a n o
      · have e1 : partV a n o = 0 := by simp [partV, hm, hp]
        have e2 : partE a n o = 1 := by simp [partE, hm, hp]
        rw [e1, e2]
        have hp' : o < 1 ∨ (1 ≤ o ∧ n < 0) ∨ (1 ≤ o ∧ 0 ≤ n ∧ o < n) := by simp [partB] at hp; omega
        clear e1 e2 hm hp
        rcases hp' with b1 | ⟨b1, b2⟩ | ⟨b1, b2, b3⟩
        all_goals
          go_enter Try.func17, Try.ntmps17
          go_wp2
          go_ret2
          exact ⟨rfl, rfl⟩
      · have e1 : partV a n o = a * n / o := by simp [partV, hm, hp]
        have e2 : partE a n o = 0 := by simp [partE, hm, hp]
        rw [e1, e2]
        obtain ⟨o1, n0, n1⟩ := partB_iff.1 hp
        clear e1 e2 hm hp
        obtain ⟨a, rfl⟩ := Int.eq_ofNat_of_zero_le (show 0 ≤ a by omega)
        obtain ⟨n, rfl⟩ := Int.eq_ofNat_of_zero_le n0
        obtain ⟨o, rfl⟩ := Int.eq_ofNat_of_zero_le (show 0 ≤ o by omega)
        have D := Lib.hid (fun w => divided_any a n o w (by omega) (by omega) (by omega) (by omega))
        have e3 : ((a * n / o : Nat) : Int) = (a : Int) * n / o := by push_cast; rfl
        rw [e3] at D
        clear e3
        generalize (a : Int) * n / o = q at *
        generalize (a * n % o) = r at *
        go_enter Try.func17, Try.ntmps17
        go_wp2_with fail
        refine (D.out _).mono ?_
        rintro e w' ⟨rfl, rfl⟩
        go_wp2_with fail
        go_ret2
        exact ⟨by simp, rfl⟩
    · have hm : monB a = false := by simp [monB]; omega
      have e1 : partV a n o = 0 := by simp [partV, hm]
      have e2 : partE a n o = 9 := by simp [partE, hm]
      rw [e1, e2]
      clear e1 e2 hm
      go_enter Try.func17, Try.ntmps17
      go_wp2
      go_ret2
      exact ⟨rfl, rfl⟩

end Go.Proofs.Yteeiiahmhmbepaa.Led
