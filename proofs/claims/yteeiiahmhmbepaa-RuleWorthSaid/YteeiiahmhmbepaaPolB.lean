/- The laws RuleBounds and RuleBack, walked: each answers true; every policy, sum, reason and grade. -/
import Derived.Test.YteeiiahmhmbepaaPol
set_option linter.unusedVariables false
namespace Go.Proofs.Yteeiiahmhmbepaa.Led
open Go.RowKit

theorem net_nonneg {a s f : Int} (ha : monB a = true) (hs : ptB s = true) (hf : ptB f = true) : 0 ≤ net a s f ∧ net a s f ≤ a := by
  obtain ⟨m1, m2⟩ := part_mon ha hs
  obtain ⟨m3, m4⟩ := part_mon m1 hf
  obtain ⟨n1, n2⟩ := monB_iff.1 m1
  obtain ⟨n3, n4⟩ := monB_iff.1 m3
  unfold net
  omega

theorem net_mono {a b s f : Int} (ha : 0 ≤ a) (hab : a ≤ b) (hs : ptB s = true) (hf : ptB f = true) : net a s f ≤ net b s f + 1 := by
  obtain ⟨s0, s1⟩ := ptB_iff.1 hs
  obtain ⟨f0, f1⟩ := ptB_iff.1 hf
  have h1 : a * s ≤ b * s := Int.mul_le_mul_of_nonneg_right hab s0
  have h2 : a * s / 10000 ≤ b * s / 10000 := Int.ediv_le_ediv (by omega) h1
  unfold net
  generalize a * s / 10000 = x at *
  generalize b * s / 10000 = y at *
  have h3 : (y - x) * f ≤ (y - x) * 10000 := Int.mul_le_mul_of_nonneg_left f1 (by omega)
  have h4 : (y - x) * f = y * f - x * f := Int.sub_mul y x f
  omega

theorem worth_ok {p : Pol} {a r g : Int} (h : worthE p a r g = 0) : p.ok = true ∧ isK r = true ∧ isK g = true ∧ monB a = true ∧ ptB (p.S g.toNat) = true ∧ ptB (p.F r.toNat) = true ∧ grB (p.S g.toNat) (p.T g.toNat) = true ∧ worthV p a r g = net a (p.S g.toNat) (p.F r.toNat) := by
  unfold worthE at h
  split at h
  · rename_i h1
    split at h
    · rename_i h2
      split at h
      · rename_i h3
        obtain ⟨r0, r4⟩ := isK_iff.1 h2.1
        obtain ⟨g0, g4⟩ := isK_iff.1 h2.2
        have k1 := (Pol.ok_at h1 r.toNat (by omega)).1
        have k2 := (Pol.ok_at h1 g.toNat (by omega)).2
        have k3 : ptB (p.S g.toNat) = true := by
          have := k2
          simp only [grB, Bool.and_eq_true] at this
          exact this.1
        exact ⟨h1, h2.1, h2.2, h3, k3, k1, k2, by simp [worthV, h1, h2, h3]⟩
      · simp at h
    · simp at h
  · simp at h

theorem bounds_law (p : Pol) (a b r g : Int) (w : World) : Calls Try.prog 8 #[.agg p.cells, .int .i64 a, .int .i64 b, .int .i64 r, .int .i64 g] w fun e w' => e = .returned (.bool true) ∧ Below w.heap.size w w' := by
  have Hat := Lib.hid (Pol.At.alloc p w)
  have HI := Lib.hid (pol_info p)
  have W1 := Lib.hid (worth_any p a r g)
  have W2 := Lib.hid (worth_any p b r g)
  have hb0 : Below w.heap.size w (w.alloc (.cells p.cells 42)) := (Below.refl _ _).alloc (Nat.le_refl _) _
  by_cases h1 : worthE p a r g = 0
  · by_cases h2 : worthE p b r g = 0
    · obtain ⟨o1, o2, o3, o4, o5, o6, o7, o8⟩ := worth_ok h1
      obtain ⟨q1, q2, q3, q4, q5, q6, q7, q8⟩ := worth_ok h2
      rw [h1, o8] at W1
      rw [h2, q8] at W2
      obtain ⟨x0, x1⟩ := net_nonneg o4 o5 o6
      obtain ⟨y0, y1⟩ := net_nonneg q4 q5 q6
      obtain ⟨a0, a1⟩ := monB_iff.1 o4
      obtain ⟨b0, b1⟩ := monB_iff.1 q4
      have hm : a ≤ b → net a (p.S g.toNat) (p.F r.toNat) ≤ net b (p.S g.toNat) (p.F r.toNat) + 1 := fun h => net_mono a0 h o5 o6
      clear h1 h2 o1 o2 o3 o4 o5 o6 o7 o8 q1 q2 q3 q4 q5 q6 q7 q8
      generalize net a (p.S g.toNat) (p.F r.toNat) = x at *
      generalize net b (p.S g.toNat) (p.F r.toNat) = y at *
      by_cases hab : b < a
      · clear hm
        go_enter Try.func8, Try.ntmps8
        go_wp2_with fail
        refine (awake09 _).mono ?_
        rintro e w1 ⟨rfl, hb1⟩
        have Hat1 := Lib.hid (Hat.out.below hb1)
        go_wp2_with (refine wpList_load_row rfl 42 _ rfl w.heap.size rfl 42 p.cells (0, 0) _ Hat1.out Try.underlying42 rfl HI.out ?_)
        refine (W1.out _).mono ?_
        rintro e w2 ⟨rfl, hb2⟩
        have Hat2 := Lib.hid (Hat1.out.below hb2)
        go_wp2_with (refine wpList_load_row rfl 42 _ rfl w.heap.size rfl 42 p.cells (0, 0) _ Hat2.out Try.underlying42 rfl HI.out ?_)
        refine (W2.out _).mono ?_
        rintro e w3 ⟨rfl, hb3⟩
        go_wp2_with fail
        go_ret
        have z1 := hb1.size
        have z2 := hb2.size
        simp at z1
        exact ⟨by simp, ((hb0.trans (below_le hb1 (by simp))).trans (below_le hb2 (by omega))).trans (below_le hb3 (by omega))⟩
      · have hm' := hm (by omega)
        clear hm
        go_enter Try.func8, Try.ntmps8
        go_wp2_with fail
        refine (awake09 _).mono ?_
        rintro e w1 ⟨rfl, hb1⟩
        have Hat1 := Lib.hid (Hat.out.below hb1)
        go_wp2_with (refine wpList_load_row rfl 42 _ rfl w.heap.size rfl 42 p.cells (0, 0) _ Hat1.out Try.underlying42 rfl HI.out ?_)
        refine (W1.out _).mono ?_
        rintro e w2 ⟨rfl, hb2⟩
        have Hat2 := Lib.hid (Hat1.out.below hb2)
        go_wp2_with (refine wpList_load_row rfl 42 _ rfl w.heap.size rfl 42 p.cells (0, 0) _ Hat2.out Try.underlying42 rfl HI.out ?_)
        refine (W2.out _).mono ?_
        rintro e w3 ⟨rfl, hb3⟩
        go_wp2_with fail
        go_ret
        have z1 := hb1.size
        have z2 := hb2.size
        simp at z1
        exact ⟨by simp, ((hb0.trans (below_le hb1 (by simp))).trans (below_le hb2 (by omega))).trans (below_le hb3 (by omega))⟩
    · have h2' : (worthE p b r g != 0) = true := by simpa using h2
      have h2'' : (worthE p b r g == 0) = false := by simpa using h2
      rw [h1] at W1
      clear h2
      generalize worthE p b r g = E2 at *
      generalize worthV p a r g = x at *
      generalize worthV p b r g = y at *
      clear h1
      go_enter Try.func8, Try.ntmps8
      go_wp2_with fail
      refine (awake09 _).mono ?_
      rintro e w1 ⟨rfl, hb1⟩
      have Hat1 := Lib.hid (Hat.out.below hb1)
      go_wp2_with (refine wpList_load_row rfl 42 _ rfl w.heap.size rfl 42 p.cells (0, 0) _ Hat1.out Try.underlying42 rfl HI.out ?_)
      refine (W1.out _).mono ?_
      rintro e w2 ⟨rfl, hb2⟩
      have Hat2 := Lib.hid (Hat1.out.below hb2)
      go_wp2_with (refine wpList_load_row rfl 42 _ rfl w.heap.size rfl 42 p.cells (0, 0) _ Hat2.out Try.underlying42 rfl HI.out ?_)
      refine (W2.out _).mono ?_
      rintro e w3 ⟨rfl, hb3⟩
      go_wp2_with fail
      go_ret
      have z1 := hb1.size
      have z2 := hb2.size
      simp at z1
      exact ⟨by simp, ((hb0.trans (below_le hb1 (by simp))).trans (below_le hb2 (by omega))).trans (below_le hb3 (by omega))⟩
  · have h1' : (worthE p a r g != 0) = true := by simpa using h1
    have h1'' : (worthE p a r g == 0) = false := by simpa using h1
    clear h1
    generalize worthE p a r g = E1 at *
    generalize worthE p b r g = E2 at *
    generalize worthV p a r g = x at *
    generalize worthV p b r g = y at *
    go_enter Try.func8, Try.ntmps8
    go_wp2_with fail
    refine (awake09 _).mono ?_
    rintro e w1 ⟨rfl, hb1⟩
    have Hat1 := Lib.hid (Hat.out.below hb1)
    go_wp2_with (refine wpList_load_row rfl 42 _ rfl w.heap.size rfl 42 p.cells (0, 0) _ Hat1.out Try.underlying42 rfl HI.out ?_)
    refine (W1.out _).mono ?_
    rintro e w2 ⟨rfl, hb2⟩
    have Hat2 := Lib.hid (Hat1.out.below hb2)
    go_wp2_with (refine wpList_load_row rfl 42 _ rfl w.heap.size rfl 42 p.cells (0, 0) _ Hat2.out Try.underlying42 rfl HI.out ?_)
    refine (W2.out _).mono ?_
    rintro e w3 ⟨rfl, hb3⟩
    go_wp2_with fail
    go_ret
    have z1 := hb1.size
    have z2 := hb2.size
    simp at z1
    exact ⟨by simp, ((hb0.trans (below_le hb1 (by simp))).trans (below_le hb2 (by omega))).trans (below_le hb3 (by omega))⟩

theorem back_pure (p : Pol) (a r g : Int) : (worthE p a r g != 0 || (toE p g != 0 || (toV p g != 0 || worthV p a r g == 0))) = true := by
  by_cases h1 : worthE p a r g = 0
  · obtain ⟨o1, o2, o3, o4, o5, o6, o7, o8⟩ := worth_ok h1
    have e1 : toV p g = p.T g.toNat := by simp [toV, o1, o3]
    by_cases h2 : p.T g.toNat = 0
    · have hs : p.S g.toNat = 0 := by
        rw [h2] at o7
        simp [grB] at o7
        exact o7.2
      rw [o8, hs]
      simp [net]
    · simp [e1, h2]
  · simp [h1]

theorem ruleback_law (p : Pol) (a r g : Int) (w : World) : Calls Try.prog 10 #[.agg p.cells, .int .i64 a, .int .i64 r, .int .i64 g] w fun e w' => e = .returned (.bool true) ∧ Below w.heap.size w w' := by
  have Hat := Lib.hid (Pol.At.alloc p w)
  have HI := Lib.hid (pol_info p)
  have W1 := Lib.hid (worth_any p a r g)
  have W2 := Lib.hid (to_any p g)
  have hb0 : Below w.heap.size w (w.alloc (.cells p.cells 42)) := (Below.refl _ _).alloc (Nat.le_refl _) _
  have hp := Lib.hid (back_pure p a r g)
  generalize worthE p a r g = E1 at *
  generalize worthV p a r g = x at *
  generalize toE p g = E2 at *
  generalize toV p g = y at *
  go_enter Try.func10, Try.ntmps10
  go_wp2_with fail
  refine (awake09 _).mono ?_
  rintro e w1 ⟨rfl, hb1⟩
  have Hat1 := Lib.hid (Hat.out.below hb1)
  go_wp2_with (refine wpList_load_row rfl 42 _ rfl w.heap.size rfl 42 p.cells (0, 0) _ Hat1.out Try.underlying42 rfl HI.out ?_)
  refine (W1.out _).mono ?_
  rintro e w2 ⟨rfl, hb2⟩
  have Hat2 := Lib.hid (Hat1.out.below hb2)
  go_wp2_with (refine wpList_load_row rfl 42 _ rfl w.heap.size rfl 42 p.cells (0, 0) _ Hat2.out Try.underlying42 rfl HI.out ?_)
  refine (W2.out _).mono ?_
  rintro e w3 ⟨rfl, hb3⟩
  have z1 := hb1.size
  have z2 := hb2.size
  simp at z1
  have hfin : Below w.heap.size w w3 := ((hb0.trans (below_le hb1 (by simp))).trans (below_le hb2 (by omega))).trans (below_le hb3 (by omega))
  clear z1 z2 hb1 hb2 hb3
  go_wp2_with fail
  all_goals
    go_ret
    refine ⟨?_, hfin⟩
    have := hp.out
    simp_all

end Go.Proofs.Yteeiiahmhmbepaa.Led
