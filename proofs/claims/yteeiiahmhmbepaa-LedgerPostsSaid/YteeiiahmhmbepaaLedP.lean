/- The plain law of LedgerPosts: what a posting answers, by cases. -/
import Derived.Test.YteeiiahmhmbepaaLedU
set_option linter.unusedVariables false
namespace Go.Proofs.Yteeiiahmhmbepaa.Led
open Go.RowKit Go.Proofs.Yteeiiahmhmbepaa.Lib

def HAt (w : World) (b : Nat) (a0 a1 a2 a3 a4 : Int) : Prop := w.heap[b]? = some (.cells #[.int .i64 a0, .int .i64 a1, .int .i64 a2, .int .i64 a3, .int .i64 a4] 53 (0, 0))
theorem HAt.lt {w : World} {b : Nat} {a0 a1 a2 a3 a4 : Int} (h : HAt w b a0 a1 a2 a3 a4) : b < w.heap.size := (Array.getElem?_eq_some_iff.1 h).1
theorem HAt.below {w w1 : World} {b : Nat} {a0 a1 a2 a3 a4 : Int} (h : HAt w b a0 a1 a2 a3 a4) (hb : Below w.heap.size w w1) : HAt w1 b a0 a1 a2 a3 a4 := (hb.block b h.lt).trans h

theorem below_dn (B : Nat) (w : World) (n : Nat) : Below B w (w.drewN n) := ⟨rfl, rfl, rfl, Nat.le_refl _, fun _ _ => rfl⟩

theorem set_other (w : World) (g i : Nat) (v : Value) (b o : Nat) (h : b ≠ g) : (w.setCell ⟨g, i, none⟩ v).cell? ⟨b, o, none⟩ = w.cell? ⟨b, o, none⟩ := by
  simp only [World.cell?, heap_setCell_other w ⟨g, i, none⟩ b v h]

/-- What a posting answers, by cases. -/
theorem post_cases {xs : List Int} (hx : xs.length = 5) {n0 n1 n2 n3 n4 f t s : Int} (hn : postL xs f t s = [n0, n1, n2, n3, n4]) :
    (postE xs f t s = 1 ∧ n0 = 0 ∧ n1 = 0 ∧ n2 = 0 ∧ n3 = 0 ∧ n4 = 0 ∧ (f < 0 ∨ (¬ f < 0 ∧ 4 < f) ∨ (¬ f < 0 ∧ ¬ 4 < f ∧ t < 0) ∨ (¬ f < 0 ∧ ¬ 4 < f ∧ ¬ t < 0 ∧ 4 < t) ∨ (¬ f < 0 ∧ ¬ 4 < f ∧ ¬ t < 0 ∧ ¬ 4 < t ∧ f = t) ∨ (¬ f < 0 ∧ ¬ 4 < f ∧ ¬ t < 0 ∧ ¬ 4 < t ∧ ¬ f = t ∧ s < 0))) ∨
    (¬ f < 0 ∧ ¬ 4 < f ∧ ¬ t < 0 ∧ ¬ 4 < t ∧ ¬ f = t ∧ ¬ s < 0 ∧ ∃ x y, (arr xs)[f.toNat]? = some (.int .i64 x) ∧ (arr xs)[t.toNat]? = some (.int .i64 y) ∧
      ((postE xs f t s = 9 ∧ n0 = 0 ∧ n1 = 0 ∧ n2 = 0 ∧ n3 = 0 ∧ n4 = 0 ∧ (rt s = false ∨ (rt s = true ∧ rt x = false) ∨ (rt s = true ∧ rt x = true ∧ rt y = false) ∨ (rt s = true ∧ rt x = true ∧ rt y = true ∧ rt (x - s) = false) ∨ (rt s = true ∧ rt x = true ∧ rt y = true ∧ rt (x - s) = true ∧ rt (y + s) = false))) ∨
       (postE xs f t s = 0 ∧ rt s = true ∧ rt x = true ∧ rt y = true ∧ rt (x - s) = true ∧ rt (y + s) = true ∧
        ∃ b0 b1 b2 b3 b4, (arr xs).setIfInBounds f.toNat (.int .i64 (x - s)) = arr [b0, b1, b2, b3, b4] ∧ (arr [b0, b1, b2, b3, b4])[t.toNat]? = some (.int .i64 y) ∧ (arr [b0, b1, b2, b3, b4]).setIfInBounds t.toNat (.int .i64 (y + s)) = arr [n0, n1, n2, n3, n4]))) := by
  have hz : ∀ {l : List Int}, l = [n0, n1, n2, n3, n4] → l = zer → n0 = 0 ∧ n1 = 0 ∧ n2 = 0 ∧ n3 = 0 ∧ n4 = 0 := by
    intro l h1 h2
    rw [h1] at h2
    simp [zer] at h2
    exact h2
  by_cases hE : postE xs f t s = 0
  · obtain ⟨b1, b2, b3, b4, r1, r2, r3, r4, r5, e⟩ := post_ok hE
    obtain ⟨f0, f5⟩ := isB_iff.1 b1
    obtain ⟨t0, t5⟩ := isB_iff.1 b2
    have hf := arr_get xs f.toNat (by omega)
    have ht := arr_get xs t.toNat (by omega)
    right
    refine ⟨by omega, by omega, by omega, by omega, b3, by omega, _, _, hf, ht, .inr ⟨hE, r1, r2, r3, r4, r5, ?_⟩⟩
    obtain ⟨c0, c1, c2, c3, c4, hc⟩ := list5 (l := xs.set f.toNat (xs.getD f.toNat 0 - s)) (by simp [hx])
    refine ⟨c0, c1, c2, c3, c4, ?_, ?_, ?_⟩
    · rw [arr_set, hc]
    · rw [← hc, ← arr_set, Array.getElem?_setIfInBounds, if_neg (by omega)]
      exact ht
    · rw [arr_set, ← hc, ← e, hn]
  · obtain ⟨z1, z2⟩ := post_zero hE
    have hz' := hz hn z1
    by_cases hb : badB f t s = true
    · left
      have e1 : postE xs f t s = 1 := by simp [postE, hb]
      refine ⟨e1, hz'.1, hz'.2.1, hz'.2.2.1, hz'.2.2.2.1, hz'.2.2.2.2, ?_⟩
      simp only [badB, isB, Bool.or_eq_true, Bool.not_eq_true', Bool.and_eq_false_iff, decide_eq_true_eq, decide_eq_false_iff_not, beq_iff_eq] at hb
      omega
    · right
      have hb' : badB f t s = false := by simpa using hb
      obtain ⟨⟨⟨h1, h2⟩, h3⟩, h4⟩ : ((isB f = true ∧ isB t = true) ∧ (f == t) = false) ∧ (decide (s < 0)) = false := by simpa [badB] using hb'
      obtain ⟨f0, f5⟩ := isB_iff.1 h1
      obtain ⟨t0, t5⟩ := isB_iff.1 h2
      have hf := arr_get xs f.toNat (by omega)
      have ht := arr_get xs t.toNat (by omega)
      have e9 : postE xs f t s = 9 := by
        rcases z2 with h | h
        · unfold postE at h
          rw [if_neg hb] at h
          split at h <;> simp at h
        · exact h
      refine ⟨by omega, by omega, by omega, by omega, by simpa using h3, by simpa using h4, _, _, hf, ht, .inl ⟨e9, hz'.1, hz'.2.1, hz'.2.2.1, hz'.2.2.2.1, hz'.2.2.2.2, ?_⟩⟩
      generalize hgx : xs.getD f.toNat 0 = x at *
      generalize hgy : xs.getD t.toNat 0 = y at *
      cases q1 : rt s
      · exact .inl rfl
      cases q2 : rt x
      · exact .inr (.inl ⟨rfl, rfl⟩)
      cases q3 : rt y
      · exact .inr (.inr (.inl ⟨rfl, rfl, rfl⟩))
      cases q4 : rt (x - s)
      · exact .inr (.inr (.inr (.inl ⟨rfl, rfl, rfl, rfl⟩)))
      cases q5 : rt (y + s)
      · exact .inr (.inr (.inr (.inr ⟨rfl, rfl, rfl, rfl, rfl⟩)))
      · have := sub_mk q2 q1 q4
        have := add_mk q3 q1 q5
        exact absurd (show postE xs f t s = 0 by simp only [postE, setB, *]; simp) hE

end Go.Proofs.Yteeiiahmhmbepaa.Led
