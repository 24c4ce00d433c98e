/- The ledger's laws LedgerOdd and LedgerBack, walked: each answers true, whatever is handed in. -/
import Derived.Test.YteeiiahmhmbepaaLed
import Derived.Test.YteeiiahmhmbepaaLedE
set_option linter.unusedVariables false
namespace Go.Proofs.Yteeiiahmhmbepaa.Led
open Go.RowKit

theorem arr5 (a b c d e : Int) : arr [a, b, c, d, e] = #[.int .i64 a, .int .i64 b, .int .i64 c, .int .i64 d, .int .i64 e] := rfl

theorem odd_any (xs : List Int) (hx : xs.length = 5) (n : Int) (w : World) :
    Calls Try.prog 13 #[.agg (arr xs), .int .i64 n] w fun e w' => e = .returned (.bool true) ∧ Below w.heap.size w w' := by
  obtain ⟨a, b, c, d, e, rfl⟩ := list5 hx
  have hbal := balance_any [a, b, c, d, e] hx n
  cases hb : isB n
  · have h' : n < 0 ∨ 4 < n := by simp [isB] at hb; omega
    rw [hb] at hbal
    rw [arr5] at hbal ⊢
    have Hb := Lib.hid hbal
    clear hbal hx
    rcases h' with h' | h'
    all_goals
      go_enter Try.func13, Try.ntmps13
      go_wp2_with fail
      refine (awake_any _).mono ?_
      rintro e w1 ⟨rfl, hb1⟩
      obtain ⟨hc1, hf1⟩ := bcell hb1
      go_wp2_with fail
      refine (Hb.out _).mono ?_
      rintro e w2 ⟨rfl, hb2⟩
      rw [if_neg (by decide)]
      go_wp2_with fail
      go_ret
      refine ⟨by simp, ?_⟩
      have h1 := hb1.size
      have h2 := hb2.size
      simp at h1 h2
      exact ((Below.refl _ _).alloc (Nat.le_refl _) _).trans ((below_le hb1 (by simp)).trans (below_le hb2 (by omega)))
  · obtain ⟨h0, h5⟩ := isB_iff.1 hb
    have h' : n = 0 ∨ n = 1 ∨ n = 2 ∨ n = 3 ∨ n = 4 := by omega
    rw [hb] at hbal
    rw [arr5] at hbal ⊢
    rw [if_pos rfl] at hbal
    clear hx hb h0 h5
    rcases h' with rfl | rfl | rfl | rfl | rfl
    all_goals
      first
        | rw [show [a, b, c, d, e].getD (0 : Int).toNat 0 = a from rfl] at hbal
        | rw [show [a, b, c, d, e].getD (1 : Int).toNat 0 = b from rfl] at hbal
        | rw [show [a, b, c, d, e].getD (2 : Int).toNat 0 = c from rfl] at hbal
        | rw [show [a, b, c, d, e].getD (3 : Int).toNat 0 = d from rfl] at hbal
        | rw [show [a, b, c, d, e].getD (4 : Int).toNat 0 = e from rfl] at hbal
      have Hb := Lib.hid hbal
      clear hbal
      go_enter Try.func13, Try.ntmps13
      go_wp2_with fail
      refine (awake_any _).mono ?_
      rintro e w1 ⟨rfl, hb1⟩
      obtain ⟨hc1, hf1⟩ := bcell hb1
      go_wp2_with fail
      refine (Hb.out _).mono ?_
      rintro e w2 ⟨rfl, hb2⟩
      obtain ⟨hc2, hf2⟩ := bcell hb2
      have hz : w.heap.size < w1.heap.size := by have := hb1.size; simp at this; omega
      go_wp2_with fail
      go_ret
      refine ⟨by simp, ?_⟩
      have h1 := hb1.size
      have h2 := hb2.size
      simp at h1 h2
      exact ((Below.refl _ _).alloc (Nat.le_refl _) _).trans ((below_le hb1 (by simp)).trans (below_le hb2 (by omega)))

theorem post_zero {xs : List Int} {f t s : Int} (h : postE xs f t s ≠ 0) : postL xs f t s = zer ∧ (postE xs f t s = 1 ∨ postE xs f t s = 9) := by
  unfold postE at h ⊢
  unfold postL
  split
  · exact ⟨rfl, .inl rfl⟩
  · rename_i h1
    split
    · rename_i h2
      rw [if_neg h1, if_pos h2] at h
      exact absurd rfl h
    · exact ⟨rfl, .inr rfl⟩

theorem sub_ok {a b : Int} (h : sube a b = 0) : rt a = true ∧ rt b = true ∧ rt (a - b) = true ∧ subv a b = a - b := by
  unfold sube at h
  split at h
  · rename_i h1
    unfold te at h
    split at h
    · rename_i h2
      simp [ok2] at h1
      exact ⟨h1.1, h1.2, h2, by simp [subv, ok2, h1, tv, h2]⟩
    · simp at h
  · simp at h

theorem add_ok {a b : Int} (h : adde a b = 0) : rt a = true ∧ rt b = true ∧ rt (a + b) = true ∧ addv a b = a + b := by
  unfold adde at h
  split at h
  · rename_i h1
    unfold te at h
    split at h
    · rename_i h2
      simp [ok2] at h1
      exact ⟨h1.1, h1.2, h2, by simp [addv, ok2, h1, tv, h2]⟩
    · simp at h
  · simp at h

theorem sub_mk {a b : Int} (h1 : rt a = true) (h2 : rt b = true) (h3 : rt (a - b) = true) : sube a b = 0 := by simp [sube, ok2, h1, h2, te, h3]
theorem add_mk {a b : Int} (h1 : rt a = true) (h2 : rt b = true) (h3 : rt (a + b) = true) : adde a b = 0 := by simp [adde, ok2, h1, h2, te, h3]
theorem getD_set_eq (l : List Int) (i : Nat) (v : Int) (h : i < l.length) : (l.set i v).getD i 0 = v := by simp [List.getD, h]
theorem getD_set_ne (l : List Int) (i j : Nat) (v : Int) (h : i ≠ j) : (l.set i v).getD j 0 = l.getD j 0 := by simp [List.getD, h]

/-- What a right posting is. -/
theorem post_ok {xs : List Int} {f t s : Int} (h : postE xs f t s = 0) : isB f = true ∧ isB t = true ∧ f ≠ t ∧ 0 ≤ s ∧ rt s = true ∧ rt (xs.getD f.toNat 0) = true ∧ rt (xs.getD t.toNat 0) = true ∧
    rt (xs.getD f.toNat 0 - s) = true ∧ rt (xs.getD t.toNat 0 + s) = true ∧ postL xs f t s = (xs.set f.toNat (xs.getD f.toNat 0 - s)).set t.toNat (xs.getD t.toNat 0 + s) := by
  unfold postE at h
  split at h
  · simp at h
  · rename_i h1
    split at h
    · rename_i h2
      have h1' : badB f t s = false := by simpa using h1
      obtain ⟨⟨⟨b1, b2⟩, b3⟩, b4⟩ : ((isB f = true ∧ isB t = true) ∧ (f == t) = false) ∧ (decide (s < 0)) = false := by simpa [badB] using h1'
      obtain ⟨h5, h6⟩ : sube (xs.getD f.toNat 0) s = 0 ∧ adde (xs.getD t.toNat 0) s = 0 := by simpa [setB] using h2
      obtain ⟨s1, s2, s3, s4⟩ := sub_ok h5
      obtain ⟨a1, a2, a3, a4⟩ := add_ok h6
      refine ⟨b1, b2, by simpa using b3, by simpa using b4, s2, s1, a1, s3, a3, ?_⟩
      unfold postL
      rw [if_neg h1, if_pos h2, s4, a4]
    · simp at h

theorem post_back {xs : List Int} (hx : xs.length = 5) {f t s : Int} (h : postE xs f t s = 0) : postE (postL xs f t s) t f s = 0 ∧ postL (postL xs f t s) t f s = xs := by
  obtain ⟨b1, b2, b3, b4, r1, r2, r3, r4, r5, e⟩ := post_ok h
  obtain ⟨f0, f5⟩ := isB_iff.1 b1
  obtain ⟨t0, t5⟩ := isB_iff.1 b2
  obtain ⟨i, rfl⟩ := Int.eq_ofNat_of_zero_le f0
  obtain ⟨j, rfl⟩ := Int.eq_ofNat_of_zero_le t0
  simp only [Int.toNat_natCast] at *
  have hij : i ≠ j := by omega
  have gi : (postL xs i j s).getD i 0 = xs.getD i 0 - s := by
    rw [e, getD_set_ne _ _ _ _ (by omega), getD_set_eq _ _ _ (by omega)]
  have gj : (postL xs i j s).getD j 0 = xs.getD j 0 + s := by
    rw [e, getD_set_eq _ _ _ (by simp; omega)]
  have hbad : badB (j : Int) (i : Int) s = false := by
    simp [badB, b1, b2]
    omega
  have hs : sube (xs.getD j 0 + s) s = 0 := by
    have : xs.getD j 0 + s - s = xs.getD j 0 := by omega
    exact sub_mk r5 r1 (by rw [this]; exact r3)
  have ha : adde (xs.getD i 0 - s) s = 0 := by
    have : xs.getD i 0 - s + s = xs.getD i 0 := by omega
    exact add_mk r4 r1 (by rw [this]; exact r2)
  have hset : setB (postL xs i j s) j i s = true := by
    simp only [setB, Int.toNat_natCast, gi, gj, hs, ha]
    rfl
  refine ⟨by simp [postE, hbad, hset], ?_⟩
  generalize postL xs i j s = ys at *
  have e2 : postL ys j i s = ((ys.set j (subv (xs.getD j 0 + s) s)).set i (addv (xs.getD i 0 - s) s)) := by
    unfold postL
    rw [if_neg (by simp [hbad]), if_pos hset]
    simp only [Int.toNat_natCast]
    rw [gi, gj]
  rw [e2, (sub_ok hs).2.2.2, (add_ok ha).2.2.2, e]
  apply List.ext_getElem?
  intro k
  simp only [List.getElem?_set, List.length_set]
  by_cases hk : i = k
  · subst hk
    have hv : xs[i]? = some (xs.getD i 0) := by simp [List.getD, show i < xs.length by omega]
    rw [if_pos rfl, if_pos (by omega), hv]
    congr 1
    omega
  · rw [if_neg hk]
    by_cases hk2 : j = k
    · subst hk2
      have hv : xs[j]? = some (xs.getD j 0) := by simp [List.getD, show j < xs.length by omega]
      rw [if_pos rfl, if_pos (by omega), hv]
      congr 1
      omega
    · rw [if_neg hk2, if_neg hk2, if_neg hk]

theorem back_any (xs : List Int) (hx : xs.length = 5) (f t s : Int) (w : World) :
    Calls Try.prog 12 #[.agg (arr xs), .agg #[.int .i64 f, .int .i64 t, .int .i64 s]] w fun e w' => e = .returned (.bool true) ∧ Below w.heap.size w w' := by
  obtain ⟨a, b, c, d, e, hxs⟩ := list5 hx
  obtain ⟨a', b', c', d', e', hys⟩ := list5 (post_len xs hx f t s)
  have hp := post_any xs hx f t s
  have hq := post_any (postL xs f t s) (post_len xs hx f t s) t f s
  have hback := @post_back xs hx f t s
  have hzero := @post_zero xs f t s
  rw [hys] at hp hq hback hzero
  rw [hxs] at hp hback
  rw [arr5] at hp hq
  rw [hxs]
  rw [arr5]
  rw [arr5] at hp
  rw [hxs] at hzero
  generalize hE : postE [a, b, c, d, e] f t s = E at *
  clear hE hys hxs hx
  have Hp := Lib.hid hp
  have Hq := Lib.hid hq
  clear hp hq
  by_cases h0 : E = 0
  · obtain ⟨h1, h2⟩ := hback h0
    rw [h1, h2] at Hq
    rw [arr5] at Hq
    clear hback hzero h1 h2
    subst h0
    have q1 := eql56 a b c d e
    go_enter Try.func12, Try.ntmps12
    go_wp2_with fail
    refine (awake_any _).mono ?_
    rintro e w1 ⟨rfl, hb1⟩
    obtain ⟨hc1, hf1⟩ := bcell hb1
    have hz : w.heap.size + 1 < w1.heap.size := by have := hb1.size; simp at this; omega
    have hz' : w.heap.size < w1.heap.size := by omega
    go_wp2_with fail
    refine (Hp.out _).mono ?_
    rintro e w2 ⟨rfl, hb2⟩
    obtain ⟨hc2, hf2⟩ := bcell hb2
    have hz2 : w1.heap.size < w2.heap.size := by have := hb2.size; simp at this; omega
    have hy2 : w.heap.size < w2.heap.size := by omega
    have hy2' : w.heap.size + 1 < w2.heap.size := by omega
    go_wp2_with fail
    refine (Hq.out _).mono ?_
    rintro e w3 ⟨rfl, hb3⟩
    obtain ⟨hc3, hf3⟩ := bcell hb3
    have hz3 : w2.heap.size < w3.heap.size := by have := hb3.size; simp at this; omega
    have hy3 : w1.heap.size < w3.heap.size := by omega
    go_wp2_with fail
    go_ret
    refine ⟨by simp, ?_⟩
    have g1 : Below w.heap.size w w1 := (((Below.refl _ _).alloc (Nat.le_refl _) _).alloc (by simp) _).trans (below_le hb1 (by simp; omega))
    have g2 : Below w.heap.size w w2 := (g1.alloc (by omega) _).trans (below_le hb2 (by simp; omega))
    have g3 : Below w.heap.size w w3 := (g2.alloc (by omega) _).trans (below_le hb3 (by simp; omega))
    exact g3.alloc (by omega) _
  · obtain ⟨h1, h2⟩ := hzero h0
    have h3 : (E == 0) = false := by simp [h0]
    simp only [zer, List.cons.injEq, and_true] at h1
    obtain ⟨rfl, rfl, rfl, rfl, rfl⟩ := h1
    clear hback hzero h2 Hq
    have q1 := eql56 0 0 0 0 0
    go_enter Try.func12, Try.ntmps12
    go_wp2_with fail
    refine (awake_any _).mono ?_
    rintro e w1 ⟨rfl, hb1⟩
    obtain ⟨hc1, hf1⟩ := bcell hb1
    have hz : w.heap.size + 1 < w1.heap.size := by have := hb1.size; simp at this; omega
    have hz' : w.heap.size < w1.heap.size := by omega
    go_wp2_with fail
    refine (Hp.out _).mono ?_
    rintro e w2 ⟨rfl, hb2⟩
    obtain ⟨hc2, hf2⟩ := bcell hb2
    have hz2 : w1.heap.size < w2.heap.size := by have := hb2.size; simp at this; omega
    go_wp2_with fail
    go_ret
    refine ⟨by simp, ?_⟩
    have g1 : Below w.heap.size w w1 := (((Below.refl _ _).alloc (Nat.le_refl _) _).alloc (by simp) _).trans (below_le hb1 (by simp; omega))
    have g2 : Below w.heap.size w w2 := (g1.alloc (by omega) _).trans (below_le hb2 (by simp; omega))
    exact g2.alloc (by omega) _

end Go.Proofs.Yteeiiahmhmbepaa.Led
