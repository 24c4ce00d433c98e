/- Two-digit division by hand, plain: what the shifted words are, what a digit's guess comes to. -/
import Derived.Test.YteeiiahmhmbepaaCen
import Derived.Laws.BitsLemmas
import Derived.Laws.Bits64
import Derived.Lib.ItoaNum
set_option linter.unusedVariables false
namespace Go.Proofs.Yteeiiahmhmbepaa.Led

theorem wraps_u64_64 (n : Int) (h₀ : 0 ≤ n) (h₁ : n < 2 ^ 64) : IntKind.u64.wrap n = n := by rw [IntKind.wrap_u64]; omega

theorem and32 (x : Int) (h0 : 0 ≤ x) (h1 : x < 18446744073709551616) : bits .and .u64 x 4294967295 = x % 4294967296 :=
  bits_mask .u64 64 (by decide) wraps_u64_64 32 (by decide) x h0 h1

/-- The shift that lifts a number to 64 bits. -/
theorem lift_bits (y : Nat) (hy0 : 0 < y) (hy : y ≤ 9223372036854775807) : ∃ s : Nat, (64 - (Lib.bitLen y : Int) = s) ∧ 1 ≤ s ∧ s ≤ 63 ∧ 9223372036854775808 ≤ y * 2 ^ s ∧ y * 2 ^ s < 18446744073709551616 := by
  obtain ⟨a, b, c⟩ := Lib.bitLenAux_bounds 64 y (by omega) (by omega)
  have hL : Lib.bitLen y = Lib.bitLenAux 64 y := rfl
  rw [hL]
  generalize Lib.bitLenAux 64 y = L at *
  have hL63 : L ≤ 63 := by
    apply Classical.byContradiction
    intro h
    have : 2 ^ 63 ≤ 2 ^ (L - 1) := Nat.pow_le_pow_right (by omega) (by omega)
    omega
  refine ⟨64 - L, by omega, by omega, by omega, ?_, ?_⟩
  · have : 2 ^ (L - 1) * 2 ^ (64 - L) = 9223372036854775808 := by
      rw [← Nat.pow_add, show L - 1 + (64 - L) = 63 by omega]
    have h2 := Nat.mul_le_mul_right (2 ^ (64 - L)) b
    omega
  · have : 2 ^ L * 2 ^ (64 - L) = 18446744073709551616 := by
      rw [← Nat.pow_add, show L + (64 - L) = 64 by omega]
    have h2 := Nat.mul_lt_mul_of_pos_right c (Nat.pow_pos (n := 64 - L) (show 0 < 2 by omega))
    omega

/-- The shifted words. -/
theorem div_open (hi lo y s : Nat) (h1 : hi < y) (hl : lo < 18446744073709551616) (s1 : 1 ≤ s) (s2 : s ≤ 63) (v0 : 9223372036854775808 ≤ y * 2 ^ s) (v1 : y * 2 ^ s < 18446744073709551616) :
    ∃ p q u m n : Nat, (IntKind.u64.wrap ((y : Int) * 2 ^ s) = (p * 4294967296 + q : Nat)) ∧ bits .or .u64 (IntKind.u64.wrap ((hi : Int) * 2 ^ s)) ((lo : Int) / 2 ^ (64 - s)) = (u : Nat) ∧
      IntKind.u64.wrap ((lo : Int) * 2 ^ s) = (m * 4294967296 + n : Nat) ∧ 2147483648 ≤ p ∧ p < 4294967296 ∧ q < 4294967296 ∧ m < 4294967296 ∧ n < 4294967296 ∧ u < p * 4294967296 + q ∧
      (hi * 18446744073709551616 + lo) / y = (u * 18446744073709551616 + m * 4294967296 + n) / (p * 4294967296 + q) := by
  have e64 : 2 ^ s * 2 ^ (64 - s) = 18446744073709551616 := by rw [← Nat.pow_add, show s + (64 - s) = 64 by omega]
  have hp : 0 < 2 ^ s := Nat.pow_pos (by omega)
  have hp' : 0 < 2 ^ (64 - s) := Nat.pow_pos (by omega)
  have c2 : ((2 : Int) ^ s) = ((2 ^ s : Nat) : Int) := by simp
  have c3 : ((2 : Int) ^ (64 - s)) = ((2 ^ (64 - s) : Nat) : Int) := by simp
  have hhi : hi * 2 ^ s < 18446744073709551616 := Nat.lt_of_lt_of_le (Nat.mul_lt_mul_of_pos_right h1 hp) (by omega)
  have ha : lo / 2 ^ (64 - s) < 2 ^ s := by
    rw [Nat.div_lt_iff_lt_mul hp', e64]
    exact hl
  have hor : bits .or .u64 (IntKind.u64.wrap ((hi : Int) * 2 ^ s)) ((lo : Int) / 2 ^ (64 - s)) = ((hi * 2 ^ s + lo / 2 ^ (64 - s) : Nat) : Int) := by
    have ew : IntKind.u64.wrap ((hi : Int) * 2 ^ s) = ((hi * 2 ^ s : Nat) : Int) := by
      rw [c2, ← Int.natCast_mul, IntKind.wrap_u64]
      generalize hi * 2 ^ s = z at *
      omega
    have ed : ((lo : Int) / 2 ^ (64 - s)) = ((lo / 2 ^ (64 - s) : Nat) : Int) := by rw [c3]; exact (Int.natCast_ediv _ _).symm
    rw [ew, ed]
    have hlt : 2 ^ s ≤ 2 ^ 63 := Nat.pow_le_pow_right (by omega) s2
    rw [bits_join .u64 64 (by decide) wraps_u64_64 s _ _ (Int.natCast_nonneg _) (by rw [c2, ← Int.natCast_emod, Nat.mul_mod_left]; rfl) (by generalize hi * 2 ^ s = z at *; omega) (Int.natCast_nonneg _) (by rw [c2]; exact_mod_cast ha) (by generalize lo / 2 ^ (64 - s) = z at *; omega)]
    simp
  rw [hor]
  rw [c2]
  clear c2 c3 hor
  generalize 2 ^ s = S at *
  generalize 2 ^ (64 - s) = T at *
  have hab := Nat.div_add_mod lo T
  have hb := Nat.mod_lt lo hp'
  generalize lo / T = a at *
  generalize lo % T = b at *
  have hbS : b * S < 18446744073709551616 := by
    have := Nat.mul_lt_mul_of_pos_right hb hp
    rw [Nat.mul_comm T S] at this
    omega
  have elo : lo * S = a * 18446744073709551616 + b * S := by
    rw [← hab, ← e64, Nat.add_mul, Nat.mul_comm T a, Nat.mul_assoc, Nat.mul_comm T S]
  have eU : (hi * 18446744073709551616 + lo) * S = (hi * S + a) * 18446744073709551616 + b * S := by
    rw [Nat.add_mul, elo, Nat.add_mul, Nat.mul_right_comm]
    omega
  have hlt : (hi * 18446744073709551616 + lo) * S < y * S * 18446744073709551616 := by
    rw [Nat.mul_right_comm]
    exact Nat.mul_lt_mul_of_pos_right (by omega) hp
  have hu : hi * S + a < y * S := by omega
  have hdiv : (hi * 18446744073709551616 + lo) / y = ((hi * S + a) * 18446744073709551616 + b * S) / (y * S) := by
    rw [← eU, Nat.mul_div_mul_right _ _ hp]
  rw [hdiv]
  rw [← Int.natCast_mul, ← Int.natCast_mul, elo]
  generalize hi * S + a = u at *
  generalize y * S = V at *
  generalize b * S = L at *
  refine ⟨V / 4294967296, V % 4294967296, u, L / 4294967296, L % 4294967296, ?_, rfl, ?_, by omega, by omega, by omega, by omega, by omega, by omega, ?_⟩
  · rw [IntKind.wrap_u64]
    omega
  · rw [IntKind.wrap_u64]
    omega
  · rw [show V / 4294967296 * 4294967296 + V % 4294967296 = V by omega, show u * 18446744073709551616 + L / 4294967296 * 4294967296 + L % 4294967296 = u * 18446744073709551616 + L by omega]

/-- A digit: the number's guess is not too small; where it is too big, the test says so. -/
theorem digit_test {u p q m x r : Nat} (hp : 2147483648 ≤ p) (hq : q < 4294967296) (hm : m < 4294967296) (hu : u < p * 4294967296 + q) (he : x * p + r = u) (hr : r < 4294967296) :
    (4294967296 ≤ x ∨ r * 4294967296 + m < x * q) ↔ (u * 4294967296 + m) / (p * 4294967296 + q) < x := by
  rw [Nat.div_lt_iff_lt_mul (by omega)]
  have e : x * (p * 4294967296 + q) = (u - r) * 4294967296 + x * q := by
    rw [Nat.mul_add, ← Nat.mul_assoc, ← he, Nat.add_sub_cancel]
  have hru : r ≤ u := by rw [← he]; exact Nat.le_add_left _ _
  have a1 : ∀ V z : Nat, u < V → 4294967296 * V ≤ z → u * 4294967296 + m < z := by intros; omega
  have a2 : ∀ z : Nat, r * 4294967296 + m < z ↔ u * 4294967296 + m < (u - r) * 4294967296 + z := by
    intro z
    clear hu e he
    obtain ⟨d, rfl⟩ : ∃ d, u = r + d := ⟨u - r, by omega⟩
    rw [Nat.add_sub_cancel_left]
    omega
  constructor
  · rintro (h | h)
    · exact a1 _ _ hu (Nat.mul_le_mul_right (p * 4294967296 + q) h)
    · rw [e]
      exact (a2 _).1 h
  · intro h
    right
    rw [e] at h
    exact (a2 _).2 h

/-- Behind a step that lifts the rest past the digit's base: the guess is right. -/
theorem digit_done {u p q m x r : Nat} (hp : 2147483648 ≤ p) (hq : q < 4294967296) (hm : m < 4294967296) (hu : u < p * 4294967296 + q) (he : x * p + r = u) (hr : 4294967296 ≤ r) (hx : x ≤ 4294967296)
    (hge : (u * 4294967296 + m) / (p * 4294967296 + q) ≤ x) : x = (u * 4294967296 + m) / (p * 4294967296 + q) := by
  apply Nat.le_antisymm _ hge
  rw [Nat.le_div_iff_mul_le (by omega)]
  have e : x * (p * 4294967296 + q) = (u - r) * 4294967296 + x * q := by
    rw [Nat.mul_add, ← Nat.mul_assoc, ← he, Nat.add_sub_cancel]
  rw [e]
  have h1 : x * q ≤ 4294967296 * q := Nat.mul_le_mul_right q hx
  omega

theorem digit_first {u p q m : Nat} (hp : 2147483648 ≤ p) (hp' : p < 4294967296) (hq : q < 4294967296) (hm : m < 4294967296) (hu : u < p * 4294967296 + q) :
    u / p ≤ 4294967297 ∧ u / p * p + u % p = u ∧ u % p < p ∧ (u * 4294967296 + m) / (p * 4294967296 + q) ≤ u / p ∧ (u * 4294967296 + m) / (p * 4294967296 + q) < 4294967296 := by
  refine ⟨?_, by rw [Nat.mul_comm]; exact Nat.div_add_mod u p, Nat.mod_lt _ (by omega), ?_, ?_⟩
  · have : u / p < 4294967298 := by
      rw [Nat.div_lt_iff_lt_mul (by omega)]
      omega
    omega
  · have h1 : (u * 4294967296 + m) / (p * 4294967296 + q) ≤ (u * 4294967296 + m) / (p * 4294967296) := Nat.div_le_div_left (by omega) (by omega)
    have h2 : (u * 4294967296 + m) / (p * 4294967296) = u / p := by
      rw [Nat.mul_comm p, ← Nat.div_div_eq_div_mul, show (u * 4294967296 + m) / 4294967296 = u by omega]
    omega
  · rw [Nat.div_lt_iff_lt_mul (by omega)]
    omega

/-- Both digits. -/
theorem digits {u m n V : Nat} (hV : 0 < V) : (u * 18446744073709551616 + m * 4294967296 + n) / V =
    (u * 4294967296 + m) / V * 4294967296 + ((u * 4294967296 + m) % V * 4294967296 + n) / V := by
  have h := Nat.div_add_mod (u * 4294967296 + m) V
  have e : u * 18446744073709551616 + m * 4294967296 + n = V * ((u * 4294967296 + m) / V * 4294967296) + ((u * 4294967296 + m) % V * 4294967296 + n) := by
    rw [← Nat.mul_assoc]
    generalize V * ((u * 4294967296 + m) / V) = z at *
    omega
  rw [e, Nat.mul_add_div hV]

end Go.Proofs.Yteeiiahmhmbepaa.Led
