/- What was put is read: the plain law. -/
import Derived.Test.YtnkgbigjpihfeaaKt
set_option linter.unusedVariables false
set_option linter.unusedSimpArgs false
namespace Go.Proofs.Ytnkgbigjpihfeaa.Kd
open Go.RowKit Go.Proofs.Ytnkgbigjpihfeaa.Lib

/-- An item's bytes. -/
def itE (t : It) : List Int :=
  if t.k = 0 then leB t.v 1 else if t.k = 1 then leB t.v 2 else if t.k = 2 then leB t.v 4 else
  if t.k = 3 then leB (t.l % 18446744073709551616) 8 else
  if t.k = 4 then leB (if t.f = true then 1 else 0) 1 else
  if t.k = 5 then leB t.n 2 ++ lof t.n t.F else lof t.n t.F

/-- Can it be put? -/
def itGood (t : It) : Prop :=
  (t.k = 0 → 0 ≤ t.v ∧ t.v < 256) ∧ (t.k = 1 → 0 ≤ t.v ∧ t.v < 65536) ∧ (t.k = 2 → 0 ≤ t.v ∧ t.v < 4294967296) ∧ (t.k = 5 → t.n < 65536)

theorem p1 : (256 : Int) ^ 1 = 256 := by decide
theorem p2 : (256 : Int) ^ 2 = 65536 := by decide
theorem p4 : (256 : Int) ^ 4 = 4294967296 := by decide
theorem p8 : (256 : Int) ^ 8 = 18446744073709551616 := by decide

theorem smallL_false {l : List Int} {bad : Bool} {x : Int} {k : Nat} (h : (smallL l bad x k).2 = false) : bad = false ∧ 0 ≤ x ∧ x < 256 ^ k ∧ (smallL l bad x k).1 = l ++ leB x k := by
  unfold smallL at h ⊢
  split at h
  · cases h
  · rename_i hb
    split at h
    · cases h
    · rename_i hx
      have : bad = false := by simpa using hb
      subst this
      simp only [Bool.false_eq_true, if_false, if_neg hx]
      refine ⟨trivial, by omega, by omega, trivial⟩

theorem smallL_good {l : List Int} {x : Int} {k : Nat} (h0 : 0 ≤ x) (h1 : x < 256 ^ k) : smallL l false x k = (l ++ leB x k, false) := by
  unfold smallL
  rw [if_neg (by decide), if_neg (by omega)]
theorem smallL_over {l : List Int} {bad : Bool} {x : Int} {k : Nat} (h : x < 0 ∨ 256 ^ k ≤ x) : (smallL l bad x k).2 = true := by
  unfold smallL
  split
  · rfl
  · rfl
theorem smallL_bad {l : List Int} {x : Int} {k : Nat} : (smallL l true x k).2 = true := by simp [smallL]

theorem putL_false {l : List Int} {bad : Bool} {t : It} (h : (putL l bad t).2 = false) : bad = false ∧ itGood t ∧ (putL l bad t).1 = l ++ itE t := by
  unfold putL at h ⊢
  unfold itE itGood
  by_cases e0 : t.k = 0
  · simp only [e0, if_true] at h ⊢
    obtain ⟨h1, h2, h3, h4⟩ := smallL_false h
    rw [p1] at h3
    refine ⟨h1, ⟨fun _ => ⟨h2, h3⟩, ?_, ?_, ?_⟩, h4⟩ <;> simp
  by_cases e1 : t.k = 1
  · simp only [e1] at h ⊢
    obtain ⟨h1, h2, h3, h4⟩ := smallL_false h
    rw [p2] at h3
    refine ⟨h1, ⟨?_, fun _ => ⟨h2, h3⟩, ?_, ?_⟩, h4⟩ <;> simp
  by_cases e2 : t.k = 2
  · simp only [e2] at h ⊢
    obtain ⟨h1, h2, h3, h4⟩ := smallL_false h
    rw [p4] at h3
    refine ⟨h1, ⟨?_, ?_, fun _ => ⟨h2, h3⟩, ?_⟩, h4⟩ <;> simp
  by_cases e3 : t.k = 3
  · simp [e3] at h ⊢
    subst h
    simp
  by_cases e4 : t.k = 4
  · simp only [e4] at h ⊢
    obtain ⟨h1, h2, h3, h4⟩ := smallL_false h
    refine ⟨h1, ⟨?_, ?_, ?_, ?_⟩, h4⟩ <;> simp
  by_cases e5 : t.k = 5
  · simp only [e5] at h ⊢
    obtain ⟨h1, h2, h3, h4⟩ := smallL_false (x := t.n) h
    rw [p2] at h3
    refine ⟨h1, ⟨?_, ?_, ?_, fun _ => by omega⟩, ?_⟩
    · simp
    · simp
    · simp
    · have h' : (smallL l bad (t.n : Int) 2).2 = false := h
      simp [bytesL, h', h4]
  · simp only [e0, e1, e2, e3, e4, e5, if_false] at h ⊢
    subst h
    simp

theorem smallL_fst_len {l : List Int} {bad : Bool} {x : Int} {k : Nat} : (smallL l bad x k).1.length ≤ l.length + k := smallL_len l bad x k
theorem putL_len (l : List Int) (bad : Bool) (t : It) : (putL l bad t).1.length ≤ l.length + t.n + 8 := by
  unfold putL
  by_cases e0 : t.k = 0
  · have := smallL_len l bad t.v 1
    rw [if_pos e0]; omega
  by_cases e1 : t.k = 1
  · have := smallL_len l bad t.v 2
    rw [if_neg e0, if_pos e1]; omega
  by_cases e2 : t.k = 2
  · have := smallL_len l bad t.v 4
    rw [if_neg e0, if_neg e1, if_pos e2]; omega
  by_cases e3 : t.k = 3
  · rw [if_neg e0, if_neg e1, if_neg e2, if_pos e3]
    cases bad <;> simp [leB_len]
    omega
  by_cases e4 : t.k = 4
  · have := smallL_len l bad (if t.f = true then 1 else 0) 1
    rw [if_neg e0, if_neg e1, if_neg e2, if_neg e3, if_pos e4]; omega
  by_cases e5 : t.k = 5
  · have := smallL_len l bad t.n 2
    rw [if_neg e0, if_neg e1, if_neg e2, if_neg e3, if_neg e4, if_pos e5]
    unfold bytesL
    split
    · show (smallL l bad (↑t.n) 2).1.length ≤ _
      omega
    · simp [lof_len]; omega
  · rw [if_neg e0, if_neg e1, if_neg e2, if_neg e3, if_neg e4, if_neg e5]
    cases bad <;> simp [lof_len]
    omega

/-- The bytes behind k items. -/
def stL (T : Nat → It) : Nat → List Int × Bool
  | 0 => ([], false)
  | k + 1 => putL (stL T k).1 (stL T k).2 (T k)

theorem stL_len (T : Nat → It) : ∀ k, (stL T k).1.length ≤ sumN T k + 8 * k
  | 0 => by simp [stL]
  | k + 1 => by
    have h1 := putL_len (stL T k).1 (stL T k).2 (T k)
    have h2 := stL_len T k
    show (putL (stL T k).1 (stL T k).2 (T k)).1.length ≤ sumN T k + (T k).n + 8 * (k + 1)
    omega

theorem stL_step {T : Nat → It} {k : Nat} (h : (stL T (k + 1)).2 = false) : (stL T k).2 = false ∧ itGood (T k) ∧ (stL T (k + 1)).1 = (stL T k).1 ++ itE (T k) := putL_false h
theorem stL_mono {T : Nat → It} {k : Nat} : ∀ m, (stL T (k + m)).2 = false → (stL T k).2 = false
  | 0, h => h
  | m + 1, h => stL_mono m (stL_step (k := k + m) h).1

/-- The bytes of m items from the k-th on. -/
def restE (T : Nat → It) : Nat → Nat → List Int
  | _, 0 => []
  | k, m + 1 => itE (T k) ++ restE T (k + 1) m

theorem stL_rest {T : Nat → It} : ∀ m k, (stL T (k + m)).2 = false → (stL T (k + m)).1 = (stL T k).1 ++ restE T k m
  | 0, k, h => by simp [restE]
  | m + 1, k, h => by
    have e : k + (m + 1) = (k + 1) + m := by omega
    rw [e] at h ⊢
    rw [stL_rest m (k + 1) h, (stL_step (stL_mono m h)).2.2]
    simp [restE]

theorem stL_all {T : Nat → It} {n : Nat} (h : (stL T n).2 = false) : (stL T n).1 = restE T 0 n := by
  have := stL_rest (T := T) n 0 (by simpa using h)
  simpa [stL] using this
theorem restE_len {T : Nat → It} {n k : Nat} (h : (stL T n).2 = false) (hk : k ≤ n) : (restE T k (n - k)).length ≤ (stL T n).1.length := by
  have e : n = k + (n - k) := by omega
  have := stL_rest (T := T) (n - k) k (by rw [← e]; exact h)
  rw [← e] at this
  rw [this]
  simp
theorem stL_good {T : Nat → It} {n k : Nat} (h : (stL T n).2 = false) (hk : k < n) : itGood (T k) := by
  have e : n = (k + 1) + (n - (k + 1)) := by omega
  rw [e] at h
  exact (stL_step (stL_mono _ h)).2.1
theorem restE_step {T : Nat → It} {n k : Nat} (hk : k < n) : restE T k (n - k) = itE (T k) ++ restE T (k + 1) (n - (k + 1)) := by
  have e : n - k = (n - (k + 1)) + 1 := by omega
  rw [e]
  rfl

theorem okB_itE {t : It} (h : ∀ j, j < t.n → 0 ≤ t.F j ∧ t.F j < 256) : okB (itE t) := by
  unfold itE
  repeat' split
  all_goals first | exact okB_leB _ _ | exact okB_lof h | exact okB_append (okB_leB _ _) (okB_lof h)
theorem okB_restE {T : Nat → It} : ∀ m k, (∀ i, i < k + m → ∀ j, j < (T i).n → 0 ≤ (T i).F j ∧ (T i).F j < 256) → okB (restE T k m)
  | 0, _, _ => fun x hx => by cases hx
  | m + 1, k, h => okB_append (okB_itE (h k (by omega))) (okB_restE m (k + 1) (fun i hi => h i (by omega)))

theorem rdN_back {x : Int} {k : Nat} {R : List Int} (h0 : 0 ≤ x) (h1 : x < 256 ^ k) : rdN (leB x k ++ R) false k = (x, R, false) := by
  have hl := leB_len k x
  unfold rdN
  rw [if_neg (by simp [hl])]
  have e1 : (leB x k ++ R).take k = leB x k := by
    have := List.take_left' (l₁ := leB x k) (l₂ := R) hl
    exact this
  have e2 : (leB x k ++ R).drop k = R := List.drop_left' hl
  rw [e1, e2, leL_leB k x h0 h1]
theorem rdT_back {n : Nat} {F : Nat → Int} {R : List Int} : rdT (lof n F ++ R) false n = (lof n F, R, false) := by
  have hl := lof_len n F
  unfold rdT
  rw [if_neg (by simp [hl]; omega)]
  simp only [Int.toNat_natCast]
  rw [List.take_left' hl, List.drop_left' hl]
theorem rdB_back {n : Nat} {F : Nat → Int} {R : List Int} (h : n < 65536) : rdB (leB n 2 ++ lof n F ++ R) false = (lof n F, R, false) := by
  unfold rdB
  rw [List.append_assoc, rdN_back (x := (n : Int)) (by omega) (by rw [p2]; omega)]
  exact rdT_back
theorem rdF_back {f : Bool} {R : List Int} : rdF (leB (if f = true then 1 else 0) 1 ++ R) false = (f, R, false) := by
  unfold rdF
  rw [rdN_back (by split <;> omega) (by rw [p1]; split <;> omega)]
  cases f <;> simp

theorem wrap64_back {l : Int} (h0 : -9223372036854775808 ≤ l) (h1 : l < 9223372036854775808) : wrap64 (l % 18446744073709551616) = l := by
  unfold wrap64
  omega

end Go.Proofs.Ytnkgbigjpihfeaa.Kd
