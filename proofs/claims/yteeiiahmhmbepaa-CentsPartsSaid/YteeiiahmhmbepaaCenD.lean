/- math/bits.Div64, where the high word is not zero: two digits by hand. -/
import Derived.Test.YteeiiahmhmbepaaKnu
import Derived.Test.YteeiiahmhmbepaaShelf
import Derived.LoopTactic
import Derived.Deep.CutRange
import Derived.Deep.CutBlock
set_option linter.unusedVariables false
namespace Go.Proofs.Yteeiiahmhmbepaa.Led
open Go.RowKit

theorem hiw (a b : Nat) (hb : b < 4294967296) : ((a * 4294967296 + b : Nat) : Int) / 4294967296 = (a : Int) := by omega
theorem low (a b : Nat) (ha : a < 4294967296) (hb : b < 4294967296) : bits .and .u64 ((a * 4294967296 + b : Nat) : Int) 4294967295 = (b : Int) := by
  rw [and32 _ (by omega) (by omega)]
  omega
theorem fit {z : Nat} {a : Int} (h : a = (z : Int)) (hz : z < 18446744073709551616) : IntKind.u64.wrap a = (z : Int) := by
  rw [h, IntKind.wrap_u64]
  omega

theorem mulB (a : Nat) : (a : Int) * 4294967296 = ((a * 4294967296 : Nat) : Int) := by omega
theorem mulL {a : Nat} (h : a < 4294967296) : a * 4294967296 < 18446744073709551616 := by omega
theorem addL {a b : Nat} (h : a < 4294967296) (h2 : b < 4294967296) : a * 4294967296 + b < 18446744073709551616 := by omega

def Dig (u p q m Q : Nat) : Prop := (∀ x r, x * p + r = u → r < 4294967296 → ((4294967296 ≤ x ∨ r * 4294967296 + m < x * q) ↔ Q < x)) ∧ (∀ x r, x * p + r = u → 4294967296 ≤ r → x ≤ 4294967296 → Q ≤ x → x = Q)

theorem dig {u p q m : Nat} (hp : 2147483648 ≤ p) (hq : q < 4294967296) (hm : m < 4294967296) (hu : u < p * 4294967296 + q) : Dig u p q m ((u * 4294967296 + m) / (p * 4294967296 + q)) :=
  ⟨fun _ _ h1 h2 => digit_test hp hq hm hu h1 h2, fun _ _ h1 h2 h3 h4 => digit_done hp hq hm hu h1 h2 h3 h4⟩

/-- The same over whole numbers. -/
def DigI (u p q m Q : Int) : Prop := (∀ x r, 0 ≤ x → 0 ≤ r → x * p + r = u → r < 4294967296 → ((4294967296 ≤ x ∨ r * 4294967296 + m < x * q) ↔ Q < x)) ∧ (∀ x r, 0 ≤ x → 0 ≤ r → x * p + r = u → 4294967296 ≤ r → x ≤ 4294967296 → Q ≤ x → x = Q)

theorem nat_eq {x p r u : Nat} (h : (x : Int) * p + r = u) : x * p + r = u := by
  have h2 : ((x * p + r : Nat) : Int) = u := by rw [Int.natCast_add, Int.natCast_mul]; exact h
  exact Int.ofNat.inj h2

theorem eq_nat {x p r u : Nat} (h : x * p + r = u) : (x : Int) * p + r = u := by rw [← h, Int.natCast_add, Int.natCast_mul]
theorem lt_cast {r m z : Nat} : ((r : Int) * 4294967296 + m < (z : Int)) ↔ r * 4294967296 + m < z := by omega
theorem le_cast {x : Nat} : ((4294967296 : Int) ≤ x) ↔ 4294967296 ≤ x := by omega
theorem ge_cast {x : Nat} : ((x : Int) ≤ 4294967296) ↔ x ≤ 4294967296 := by omega
theorem lt_cast' {x : Nat} : ((x : Int) < 4294967296) ↔ x < 4294967296 := by omega

theorem Dig.int {u p q m Q : Nat} (h : Dig u p q m Q) : DigI u p q m Q := by
  constructor
  · intro x r hx hr h1 h2
    obtain ⟨x, rfl⟩ := Int.eq_ofNat_of_zero_le hx
    obtain ⟨r, rfl⟩ := Int.eq_ofNat_of_zero_le hr
    rw [← Int.natCast_mul, le_cast, lt_cast, Int.ofNat_lt]
    exact h.1 x r (nat_eq h1) (lt_cast'.1 h2)
  · intro x r hx hr h1 h2 h3 h4
    obtain ⟨x, rfl⟩ := Int.eq_ofNat_of_zero_le hx
    obtain ⟨r, rfl⟩ := Int.eq_ofNat_of_zero_le hr
    rw [h.2 x r (nat_eq h1) (le_cast.1 h2) (ge_cast.1 h3) (Int.ofNat_le.1 h4)]

theorem mul_lt32 {x q : Int} (hx : 0 ≤ x) (hq : 0 ≤ q) (hx1 : x < 4294967296) (hq1 : q < 4294967296) : x * q < 18446744073709551616 := by
  have h1 : x * q ≤ 4294967295 * q := Int.mul_le_mul_of_nonneg_right (by omega) hq
  omega

/-- A step of a digit. -/
theorem dig_stepI {u p Q x r : Int} (h : x * p + r = u) (hx : x ≤ 4294967297) (hQ : Q < x) : (x - 1) * p + (r + p) = u ∧ x - 1 ≤ 4294967296 ∧ Q ≤ x - 1 := by
  refine ⟨?_, by omega, by omega⟩
  rw [← h, Int.sub_mul]
  omega

theorem fitI {z : Int} (h : 0 ≤ z) (hz : z < 18446744073709551616) : IntKind.u64.wrap z = z := by
  rw [IntKind.wrap_u64]
  omega

/-- A step of a digit. -/
theorem dig_step {u p q m Q x r : Nat} (h : x * p + r = u) (hx : x ≤ 4294967297) (hQ : Q < x) : (x - 1) * p + (r + p) = u ∧ x - 1 ≤ 4294967296 ∧ Q ≤ x - 1 := by
  refine ⟨?_, by omega, by omega⟩
  rw [← h]
  obtain ⟨y, rfl⟩ : ∃ y, x = y + 1 := ⟨x - 1, by omega⟩
  rw [Nat.add_sub_cancel, Nat.add_mul]
  omega

/-- The digit's first guess, as the words reckon it. -/
theorem first_words {u p q m : Nat} (hp : 2147483648 ≤ p) (hp' : p < 4294967296) (hq : q < 4294967296) (hm : m < 4294967296) (hu : u < p * 4294967296 + q) :
    ∃ x r : Nat, IntKind.u64.wrap ((u : Int) / (p : Int)) = (x : Int) ∧ IntKind.u64.wrap ((u : Int) - IntKind.u64.wrap ((x : Int) * (p : Int))) = (r : Int) ∧ x * p + r = u ∧ r < 4294967296 ∧ x ≤ 4294967297 ∧
      (u * 4294967296 + m) / (p * 4294967296 + q) ≤ x := by
  obtain ⟨z1, z2, z3, z4, z5⟩ := digit_first hp hp' hq hm hu
  have hul : u < 18446744073709551616 := by omega
  refine ⟨u / p, u % p, fit (by simp) (by omega), ?_, z2, by omega, z1, z4⟩
  have ga : IntKind.u64.wrap (((u / p : Nat) : Int) * (p : Int)) = ((u / p * p : Nat) : Int) := fit (by rw [Int.natCast_mul]) (by omega)
  rw [ga]
  exact fit (by omega) (by omega)

/-- The next number, as the words reckon it. -/
theorem next_words (u m Q V : Nat) (hV : V < 18446744073709551616) (hV0 : 0 < V) (hQ : Q = (u * 4294967296 + m) / V) :
    IntKind.u64.wrap (IntKind.u64.wrap (IntKind.u64.wrap ((u : Int) * 4294967296) + (m : Int)) - IntKind.u64.wrap ((Q : Int) * (V : Int))) = (((u * 4294967296 + m) % V : Nat) : Int) := by
  have h := Nat.div_add_mod (u * 4294967296 + m) V
  rw [← hQ] at h
  have hl := Nat.mod_lt (u * 4294967296 + m) hV0
  generalize (u * 4294967296 + m) % V = z at *
  have e2 : (Q : Int) * (V : Int) = ((V * Q : Nat) : Int) := by rw [Int.natCast_mul, Int.mul_comm]
  rw [e2]
  generalize V * Q = T at *
  simp only [IntKind.wrap_u64]
  clear hQ e2
  omega

set_option maxRecDepth 100000 in
theorem div_core (hi lo y p q u m n V L x0 r0 x1 r1 Q1 Q0 u1 Qa Q : Int) (s : Nat) (w : World) (hi0 : 0 < hi) (hi1 : hi < y) (lo0 : 0 ≤ lo) (lo1 : lo < 18446744073709551616) (hy1 : y ≤ 9223372036854775807)
    (HZ : Hid (∀ w, Calls Try.prog 48 #[.int .u64 y] w fun e w' => e = .returned (.int .i64 (s : Int)) ∧ w' = w)) (s1 : 1 ≤ s) (s2 : s ≤ 63)
    (e1 : IntKind.u64.wrap (y * 2 ^ s) = V) (e2 : bits .or .u64 (IntKind.u64.wrap (hi * 2 ^ s)) (lo / 2 ^ (64 - s)) = u) (e3 : IntKind.u64.wrap (lo * 2 ^ s) = L)
    (f1 : V / 4294967296 = p) (f2 : bits .and .u64 V 4294967295 = q) (f3 : L / 4294967296 = m) (f4 : bits .and .u64 L 4294967295 = n) (V0 : 0 ≤ V) (L0 : 0 ≤ L) (u0 : 0 ≤ u) (u10 : 0 ≤ u1) (q00 : 0 ≤ q) (m00 : 0 ≤ m) (n00 : 0 ≤ n) (Q10 : 0 ≤ Q1) (Q00 : 0 ≤ Q0)
    (hp : 2147483648 ≤ p) (hp' : p < 4294967296) (hq : q < 4294967296) (hm : m < 4294967296) (hn : n < 4294967296)
    (g1 : IntKind.u64.wrap (u / p) = x0) (g2 : IntKind.u64.wrap (u - IntKind.u64.wrap (x0 * p)) = r0) (G3 : Hid (x0 * p + r0 = u)) (g4 : r0 < 4294967296) (g5 : x0 ≤ 4294967297) (g6 : Q1 ≤ x0) (g7 : 0 ≤ r0)
    (D1 : Hid (DigI u p q m Q1)) (N1 : IntKind.u64.wrap (IntKind.u64.wrap (IntKind.u64.wrap (u * 4294967296) + m) - IntKind.u64.wrap (Q1 * V)) = u1)
    (k1 : IntKind.u64.wrap (u1 / p) = x1) (k2 : IntKind.u64.wrap (u1 - IntKind.u64.wrap (x1 * p)) = r1) (K3 : Hid (x1 * p + r1 = u1)) (k4 : r1 < 4294967296) (k5 : x1 ≤ 4294967297) (k6 : Q0 ≤ x1) (k7 : 0 ≤ r1)
    (D2 : Hid (DigI u1 p q n Q0)) (hF1 : IntKind.u64.wrap (Q1 * 4294967296) = Qa) (hF2 : IntKind.u64.wrap (Qa + Q0) = Q) :
    Calls Try.prog 40 #[.int .u64 hi, .int .u64 lo, .int .u64 y] w fun e w' => (∃ r, e = .returned (.tuple #[.int .u64 Q, .int .u64 r])) ∧ ∃ n, w' = w.drewN n := by
  have hy : (y == 0) = false := by simp; omega
  have hy' : decide (y ≤ hi) = false := by simp; omega
  have hh : (hi == 0) = false := by simp; omega
  have g1' := g1
  rw [← Int.tdiv_eq_ediv_of_nonneg u0] at g1'
  have k1' := k1
  rw [← Int.tdiv_eq_ediv_of_nonneg u10] at k1'
  go_enter Try.func40, Try.ntmps40
  go_wp2_with fail
  refine (HZ.out _).mono ?_
  rintro e w' ⟨rfl, rfl⟩
  go_upto_block 0 with fail
  go_cut [15] from 67 to 85 (fun a W => a = .int .u64 Q1 ∧ W = w')
  case first =>
    go_wp2_with fail
    go_loop [15, 16] (fun a b => ∃ x r : Int, a = .int .u64 x ∧ b = .int .u64 r ∧ Hid (x * p + r = u) ∧ r < 4294967296 ∧ 0 ≤ r ∧ x ≤ 4294967297 ∧ Q1 ≤ x) (fun a _ => (intOf a).toNat)
    case atStart => exact ⟨x0, r0, rfl, rfl, G3, g4, g7, g5, g6⟩
    case round =>
      clear g1' k1' g1 g2 g4 g5 g6 k1 k2 k4 k5 k6 HZ N1 hF1 hF2 e1 e2 e3 f1 f2 f3 f4 G3 K3
      obtain ⟨x, r, rfl, rfl, hxr, hr, hr0, hx1, hQx⟩ := hrel
      have hx0 : 0 ≤ x := by omega
      have hT := D1.out.1 x r hx0 hr0 hxr.out hr
      by_cases hQ : Q1 < x
      · obtain ⟨t1, t2, t3⟩ := dig_stepI hxr.out hx1 hQ
        have T1 := Lib.hid t1
        have d1 : IntKind.u64.wrap (x - 1) = x - 1 := fitI (by omega) (by omega)
        have hor := hT.2 hQ
        have hfin := fun hb => D1.out.2 _ _ (by omega) (by omega) T1.out hb t2 t3
        have HFin := Lib.hid hfin
        clear hT t1 hfin
        have t4 : x - 1 < x := by omega
        have t5 : 0 ≤ r + p := by omega
        have t6 : 0 ≤ x - 1 := by omega
        by_cases hxB : 4294967296 ≤ x
        · clear hor
          by_cases hrB : 4294967296 ≤ r + p
          · have hq1 := Lib.hid (HFin.out hrB)
            go_wp2_with fail
            go_meet
            exact ⟨congrArg (Value.int .u64) hq1.out, rfl⟩
          · go_wp2_with fail
            go_round
            case rel => exact ⟨x - 1, r + p, rfl, rfl, T1, by omega, t5, by omega, t3⟩
            case measure => simp [intOf]; omega
        · have hlt := hor.resolve_left hxB
          have hqx0 : 0 ≤ x * q := Int.mul_nonneg hx0 q00
          have hqx : x * q < 18446744073709551616 := mul_lt32 hx0 q00 (by omega) hq
          obtain ⟨X, c1, x2⟩ : ∃ X, IntKind.u64.wrap (x * q) = X ∧ x * q = X := ⟨_, fitI hqx0 hqx, rfl⟩
          obtain ⟨R, c2, x3⟩ : ∃ R, IntKind.u64.wrap (4294967296 * r) = R ∧ r * 4294967296 = R := ⟨_, by rw [Int.mul_comm]; exact fitI (by omega) (by omega), rfl⟩
          rw [x2, x3] at hlt
          obtain ⟨Y, c3, x4⟩ : ∃ Y, IntKind.u64.wrap (R + m) = Y ∧ R + m = Y := ⟨_, fitI (by omega) (by omega), rfl⟩
          rw [x4] at hlt
          clear hor hqx hqx0 x2 x3 x4
          by_cases hrB : 4294967296 ≤ r + p
          · have hq1 := Lib.hid (HFin.out hrB)
            go_wp2_with fail
            go_meet
            exact ⟨congrArg (Value.int .u64) hq1.out, rfl⟩
          · go_wp2_with fail
            go_round
            case rel => exact ⟨x - 1, r + p, rfl, rfl, T1, by omega, t5, by omega, t3⟩
            case measure => simp [intOf]; omega
      · have hq1 : x = Q1 := by omega
        have hnot := fun h => hQ (hT.1 h)
        have hxB : ¬ 4294967296 ≤ x := fun h => hnot (.inl h)
        have hlt : ¬ r * 4294967296 + m < x * q := fun h => hnot (.inr h)
        have hqx0 : 0 ≤ x * q := Int.mul_nonneg hx0 q00
        have hqx : x * q < 18446744073709551616 := mul_lt32 hx0 q00 (by omega) hq
        obtain ⟨X, c1, x2⟩ : ∃ X, IntKind.u64.wrap (x * q) = X ∧ x * q = X := ⟨_, fitI hqx0 hqx, rfl⟩
        obtain ⟨R, c2, x3⟩ : ∃ R, IntKind.u64.wrap (4294967296 * r) = R ∧ r * 4294967296 = R := ⟨_, by rw [Int.mul_comm]; exact fitI (by omega) (by omega), rfl⟩
        rw [x2, x3] at hlt
        obtain ⟨Y, c3, x4⟩ : ∃ Y, IntKind.u64.wrap (R + m) = Y ∧ R + m = Y := ⟨_, fitI (by omega) (by omega), rfl⟩
        rw [x4] at hlt
        clear hT hnot hqx hqx0 hxr hQ x2 x3 x4
        have hq2 := Lib.hid hq1
        clear hq1
        go_wp2_with fail
        go_meet
        exact ⟨congrArg (Value.int .u64) hq2.out, rfl⟩
  case rest =>
    obtain ⟨rfl, rfl⟩ := hcut
    go_upto_block 2 with fail
    go_cut [18] from 102 to 120 (fun a W => a = .int .u64 Q0 ∧ W = wc)
    case first =>
      go_wp2_with fail
      go_loop [18, 16] (fun a b => ∃ x r : Int, a = .int .u64 x ∧ b = .int .u64 r ∧ Hid (x * p + r = u1) ∧ r < 4294967296 ∧ 0 ≤ r ∧ x ≤ 4294967297 ∧ Q0 ≤ x) (fun a _ => (intOf a).toNat)
      case atStart => exact ⟨x1, r1, rfl, rfl, K3, k4, k7, k5, k6⟩
      case round =>
        clear g1' k1' g1 g2 g4 g5 g6 k1 k2 k4 k5 k6 HZ N1 hF1 hF2 e1 e2 e3 f1 f2 f3 f4 G3 K3
        obtain ⟨x, r, rfl, rfl, hxr, hr, hr0, hx1, hQx⟩ := hrel
        have hx0 : 0 ≤ x := by omega
        have hT := D2.out.1 x r hx0 hr0 hxr.out hr
        by_cases hQ : Q0 < x
        · obtain ⟨t1, t2, t3⟩ := dig_stepI hxr.out hx1 hQ
          have T1 := Lib.hid t1
          have d1 : IntKind.u64.wrap (x - 1) = x - 1 := fitI (by omega) (by omega)
          have hor := hT.2 hQ
          have hfin := fun hb => D2.out.2 _ _ (by omega) (by omega) T1.out hb t2 t3
          have HFin := Lib.hid hfin
          clear hT t1 hfin
          have t4 : x - 1 < x := by omega
          have t5 : 0 ≤ r + p := by omega
          have t6 : 0 ≤ x - 1 := by omega
          by_cases hxB : 4294967296 ≤ x
          · clear hor
            by_cases hrB : 4294967296 ≤ r + p
            · have hq1 := Lib.hid (HFin.out hrB)
              go_wp2_with fail
              go_meet
              exact ⟨congrArg (Value.int .u64) hq1.out, rfl⟩
            · go_wp2_with fail
              go_round
              case rel => exact ⟨x - 1, r + p, rfl, rfl, T1, by omega, t5, by omega, t3⟩
              case measure => simp [intOf]; omega
          · have hlt := hor.resolve_left hxB
            have hqx0 : 0 ≤ x * q := Int.mul_nonneg hx0 q00
            have hqx : x * q < 18446744073709551616 := mul_lt32 hx0 q00 (by omega) hq
            obtain ⟨X, c1, x2⟩ : ∃ X, IntKind.u64.wrap (x * q) = X ∧ x * q = X := ⟨_, fitI hqx0 hqx, rfl⟩
            obtain ⟨R, c2, x3⟩ : ∃ R, IntKind.u64.wrap (4294967296 * r) = R ∧ r * 4294967296 = R := ⟨_, by rw [Int.mul_comm]; exact fitI (by omega) (by omega), rfl⟩
            rw [x2, x3] at hlt
            obtain ⟨Y, c3, x4⟩ : ∃ Y, IntKind.u64.wrap (R + n) = Y ∧ R + n = Y := ⟨_, fitI (by omega) (by omega), rfl⟩
            rw [x4] at hlt
            clear hor hqx hqx0 x2 x3 x4
            by_cases hrB : 4294967296 ≤ r + p
            · have hq1 := Lib.hid (HFin.out hrB)
              go_wp2_with fail
              go_meet
              exact ⟨congrArg (Value.int .u64) hq1.out, rfl⟩
            · go_wp2_with fail
              go_round
              case rel => exact ⟨x - 1, r + p, rfl, rfl, T1, by omega, t5, by omega, t3⟩
              case measure => simp [intOf]; omega
        · have hq1 : x = Q0 := by omega
          have hnot := fun h => hQ (hT.1 h)
          have hxB : ¬ 4294967296 ≤ x := fun h => hnot (.inl h)
          have hlt : ¬ r * 4294967296 + n < x * q := fun h => hnot (.inr h)
          have hqx0 : 0 ≤ x * q := Int.mul_nonneg hx0 q00
          have hqx : x * q < 18446744073709551616 := mul_lt32 hx0 q00 (by omega) hq
          obtain ⟨X, c1, x2⟩ : ∃ X, IntKind.u64.wrap (x * q) = X ∧ x * q = X := ⟨_, fitI hqx0 hqx, rfl⟩
          obtain ⟨R, c2, x3⟩ : ∃ R, IntKind.u64.wrap (4294967296 * r) = R ∧ r * 4294967296 = R := ⟨_, by rw [Int.mul_comm]; exact fitI (by omega) (by omega), rfl⟩
          rw [x2, x3] at hlt
          obtain ⟨Y, c3, x4⟩ : ∃ Y, IntKind.u64.wrap (R + n) = Y ∧ R + n = Y := ⟨_, fitI (by omega) (by omega), rfl⟩
          rw [x4] at hlt
          clear hT hnot hqx hqx0 hxr hQ x2 x3 x4
          have hq2 := Lib.hid hq1
          clear hq1
          go_wp2_with fail
          go_meet
          exact ⟨congrArg (Value.int .u64) hq2.out, rfl⟩
    case rest =>
      obtain ⟨rfl, rfl⟩ := hcut
      go_wp2_with fail
      go_ret2
      exact ⟨⟨_, rfl⟩, 0, rfl⟩

theorem div_any (hi lo y : Nat) (w : World) (h0 : 0 < hi) (h1 : hi < y) (hy1 : y ≤ 9223372036854775807) (l1 : lo < 18446744073709551616) :
    Calls Try.prog 40 #[.int .u64 hi, .int .u64 lo, .int .u64 y] w fun e w' => (∃ r, e = .returned (.tuple #[.int .u64 ((hi * 18446744073709551616 + lo) / y : Nat), .int .u64 r])) ∧ ∃ n, w' = w.drewN n := by
  obtain ⟨s, hs, s1, s2, v0, v1⟩ := lift_bits y (by omega) hy1
  obtain ⟨p, q, u, m, n, e1, e2, e3, hp, hp', hq, hm, hn, hu, hQ⟩ := div_open hi lo y s h1 l1 s1 s2 v0 v1
  have HZ := Lib.hid (fun w => Try.bits_LeadingZeros64 y w (by omega) (by omega))
  rw [Int.toNat_natCast, hs] at HZ
  have hV0 : 0 < p * 4294967296 + q := by omega
  have hV : p * 4294967296 + q < 18446744073709551616 := by omega
  have hQ2 := hQ.trans (digits (u := u) (m := m) (n := n) (V := p * 4294967296 + q) hV0)
  rw [hQ2]
  obtain ⟨x0, r0, g1, g2, g3, g4, g5, g6⟩ := first_words (m := m) hp hp' hq hm hu
  have hu1 := Nat.mod_lt (u * 4294967296 + m) hV0
  obtain ⟨x1, r1, k1, k2, k3, k4, k5, k6⟩ := first_words (m := n) hp hp' hq hn hu1
  have hQ1 := (digit_first hp hp' hq hm hu).2.2.2.2
  have hQ0 := (digit_first hp hp' hq hn hu1).2.2.2.2
  have hp0 : (0 : Int) < p := by omega
  exact div_core hi lo y p q u m n ((p * 4294967296 + q : Nat) : Int) ((m * 4294967296 + n : Nat) : Int) x0 r0 x1 r1 (((u * 4294967296 + m) / (p * 4294967296 + q) : Nat) : Int) ((((u * 4294967296 + m) % (p * 4294967296 + q) * 4294967296 + n) / (p * 4294967296 + q) : Nat) : Int) (((u * 4294967296 + m) % (p * 4294967296 + q) : Nat) : Int)
    (((u * 4294967296 + m) / (p * 4294967296 + q) * 4294967296 : Nat) : Int) (((u * 4294967296 + m) / (p * 4294967296 + q) * 4294967296 + ((u * 4294967296 + m) % (p * 4294967296 + q) * 4294967296 + n) / (p * 4294967296 + q) : Nat) : Int) s w
    (by omega) (by omega) (by omega) (by omega) (by omega) HZ s1 s2 e1 e2 e3 (hiw p q hq) (low p q hp' hq) (hiw m n hn) (low m n hm hn)
    (Int.natCast_nonneg _) (Int.natCast_nonneg _) (Int.natCast_nonneg _) (Int.natCast_nonneg _) (Int.natCast_nonneg _) (Int.natCast_nonneg _) (Int.natCast_nonneg _) (Int.natCast_nonneg _) (Int.natCast_nonneg _)
    (by omega) (by omega) (by omega) (by omega) (by omega) g1 g2 (Lib.hid (eq_nat g3)) (by omega) (by omega) (Int.ofNat_le.2 g6) (Int.natCast_nonneg _) (Lib.hid (dig hp hq hm hu).int) (next_words u m _ (p * 4294967296 + q) hV hV0 rfl) k1 k2 (Lib.hid (eq_nat k3)) (by omega) (by omega) (Int.ofNat_le.2 k6) (Int.natCast_nonneg _)
    (Lib.hid (dig hp hq hn hu1).int) (fit (mulB _) (mulL hQ1)) (fit (Int.natCast_add _ _).symm (addL hQ1 hQ0))

end Go.Proofs.Yteeiiahmhmbepaa.Led
