/- The law RuleWorth, walked: it answers true; every policy, share, reason and grade. (Printed case by case by genworth.py, a program of ours.) -/
import Derived.Test.YteeiiahmhmbepaaPolB
set_option linter.unusedVariables false
set_option linter.unusedSimpArgs false
namespace Go.Proofs.Yteeiiahmhmbepaa.Led
open Go.RowKit

theorem refworth_any (p : Pol) (a r g : Int) (w : World) (hok : p.ok = true) (hr : isK r = true) (hg : isK g = true) (hm : monB a = true) :
    Calls Try.prog 34 #[.agg p.cells, .int .i64 a, .int .i64 r, .int .i64 g] w fun e w' => e = .returned (.int .i64 (net a (p.S g.toNat) (p.F r.toNat))) ∧ Below w.heap.size w w' := by
  have Hat := Lib.hid (Pol.At.alloc p w)
  have hb0 : Below w.heap.size w (w.alloc (.cells p.cells 42)) := (Below.refl _ _).alloc (Nat.le_refl _) _
  obtain ⟨r0, r4⟩ := isK_iff.1 hr
  obtain ⟨g0, g4⟩ := isK_iff.1 hg
  have kr := (Pol.ok_at hok r.toNat (by omega)).1
  have kg : ptB (p.S g.toNat) = true := by
    have := (Pol.ok_at hok g.toNat (by omega)).2
    simp only [grB, Bool.and_eq_true] at this
    exact this.1
  obtain ⟨e3, e4⟩ := part_of hm kg
  obtain ⟨m1, m2⟩ := part_mon hm kg
  obtain ⟨e5, e6⟩ := part_of m1 kr
  obtain ⟨m3, m4⟩ := part_mon m1 kr
  have P1 := Lib.hid (fun w => refpart_any a (p.S g.toNat) 10000 w (by omega))
  rw [e3, e4] at P1
  have P2 := Lib.hid (fun w => refpart_any (a * p.S g.toNat / 10000) (p.F r.toNat) 10000 w (by omega))
  rw [e5, e6] at P2
  obtain ⟨n1, n2⟩ := monB_iff.1 m1
  obtain ⟨n3, n4⟩ := monB_iff.1 m3
  have c1 := Hat.out.share g.toNat (by omega)
  have c2 := Hat.out.fee r.toNat (by omega)
  unfold net
  clear e3 e4 e5 e6 m1 m2 m3 kr kg
  generalize a * p.S g.toNat / 10000 * p.F r.toNat / 10000 = z at *
  generalize a * p.S g.toNat / 10000 = y at *
  generalize p.S g.toNat = s at *
  generalize p.F r.toNat = f at *
  go_enter Try.func34, Try.ntmps34
  go_wp2_with fail
  refine (P1.out _).mono ?_
  rintro e w' ⟨rfl, rfl⟩
  go_wp2_with fail
  refine (P2.out _).mono ?_
  rintro e w' ⟨rfl, rfl⟩
  go_wp2_with fail
  go_ret
  exact ⟨by simp, hb0⟩

set_option maxRecDepth 100000 in
set_option maxHeartbeats 1000000 in
theorem worth0_lo_lo (p : Pol) (a r g : Int) (w : World) (hok : p.ok = false) (hr : r < 0) (hg : g < 0) : Calls Try.prog 9 #[.agg p.cells, .int .i64 a, .int .i64 r, .int .i64 g] w fun e w' => e = .returned (.bool true) ∧ Below w.heap.size w w' := by
  have Hat := Lib.hid (Pol.At.alloc p w)
  have HI := Lib.hid (pol_info p)
  have W1 := Lib.hid (worth_any p a r g)
  have W2 := Lib.hid (fee_any p a r)
  have W3 := Lib.hid (to_any p g)
  have RP := Lib.hid (ref_pol p)
  have hb0 : Below w.heap.size w (w.alloc (.cells p.cells 42)) := (Below.refl _ _).alloc (Nat.le_refl _) _
  have dr : decide (0 ≤ r) = false := by simp; omega
  have dg : decide (0 ≤ g) = false := by simp; omega
  have e1 : worthV p a r g = 0 ∧ worthE p a r g = 10 := by simp [worthV, worthE, hok]
  have e2 : feeV p a r = 0 ∧ feeE p a r = 10 := by simp [feeV, feeE, hok]
  have e3 : toV p g = 0 ∧ toE p g = 10 := by simp [toV, toE, hok]
  rw [e1.1, e1.2] at W1
  rw [e2.1, e2.2] at W2
  rw [e3.1, e3.2] at W3
  rw [hok] at RP
  clear e1 e2 e3
  go_enter Try.func9, Try.ntmps9
  go_wp2_with fail
  refine (awake09 _).mono ?_
  rintro e w1 ⟨rfl, hb1⟩
  have Hat1 := Lib.hid (Hat.out.below hb1)
  go_wp2_with (refine wpList_load_row rfl 42 _ rfl w.heap.size rfl 42 p.cells (0, 0) _ Hat1.out Try.underlying42 rfl HI.out ?_)
  refine (W1.out _).mono ?_
  rintro e w2 ⟨rfl, hb2⟩
  have Hat2 := Lib.hid (Hat1.out.below hb2)
  go_wp2_with (refine wpList_load_row rfl 42 _ rfl w.heap.size rfl 42 p.cells (0, 0) _ Hat2.out Try.underlying42 rfl HI.out ?_)
  refine (W2.out _).mono ?_
  rintro e w3 ⟨rfl, hb3⟩
  have Hat3 := Lib.hid (Hat2.out.below hb3)
  go_wp2_with (refine wpList_load_row rfl 42 _ rfl w.heap.size rfl 42 p.cells (0, 0) _ Hat3.out Try.underlying42 rfl HI.out ?_)
  refine (W3.out _).mono ?_
  rintro e w4 ⟨rfl, hb4⟩
  have Hat4 := Lib.hid (Hat3.out.below hb4)
  go_wp2_with (refine wpList_load_row rfl 42 _ rfl w.heap.size rfl 42 p.cells (0, 0) _ Hat4.out Try.underlying42 rfl HI.out ?_)
  refine (RP.out _).mono ?_
  rintro e w5 ⟨rfl, hb5⟩
  have Hat5 := Lib.hid (Hat4.out.below hb5)
  have z1 := hb1.size
  have z2 := hb2.size
  have z3 := hb3.size
  have z4 := hb4.size
  simp at z1
  have hfin : Below w.heap.size w w5 := ((((hb0.trans (below_le hb1 (by simp))).trans (below_le hb2 (by omega))).trans (below_le hb3 (by omega))).trans (below_le hb4 (by omega))).trans (below_le hb5 (by omega))
  have z5 : w.heap.size ≤ w5.heap.size := hfin.size
  clear z1 z2 z3 z4 hb1 hb2 hb3 hb4 hb5
  go_wp2_with fail
  go_ret
  exact ⟨by simp, hfin⟩

set_option maxRecDepth 100000 in
set_option maxHeartbeats 1000000 in
theorem worth_lo_lo_lo (p : Pol) (a r g : Int) (w : World) (hok : p.ok = true) (hr : r < 0) (hg : g < 0) (ha : a < 0) : Calls Try.prog 9 #[.agg p.cells, .int .i64 a, .int .i64 r, .int .i64 g] w fun e w' => e = .returned (.bool true) ∧ Below w.heap.size w w' := by
  have Hat := Lib.hid (Pol.At.alloc p w)
  have HI := Lib.hid (pol_info p)
  have W1 := Lib.hid (worth_any p a r g)
  have W2 := Lib.hid (fee_any p a r)
  have W3 := Lib.hid (to_any p g)
  have RP := Lib.hid (ref_pol p)
  have hb0 : Below w.heap.size w (w.alloc (.cells p.cells 42)) := (Below.refl _ _).alloc (Nat.le_refl _) _
  have hm : monB a = false := by simp [monB]; omega
  have hr' : isK r = false := by simp [isK]; omega
  have hg' : isK g = false := by simp [isK]; omega
  have e1 : worthV p a r g = 0 ∧ worthE p a r g = 1 := by simp [worthV, worthE, hok, hr', hg']
  have e2 : feeV p a r = 0 ∧ feeE p a r = 1 := by simp [feeV, feeE, hok, hr']
  have e3 : toV p g = 0 ∧ toE p g = 1 := by simp [toV, toE, hok, hg']
  have dr : decide (0 ≤ r) = false := by simp; omega
  have dg : decide (0 ≤ g) = false := by simp; omega
  rw [e1.1, e1.2] at W1
  rw [e2.1, e2.2] at W2
  rw [e3.1, e3.2] at W3
  rw [hok] at RP
  clear e1 e2 e3 hm hr' hg' hok
  go_enter Try.func9, Try.ntmps9
  go_wp2_with fail
  refine (awake09 _).mono ?_
  rintro e w1 ⟨rfl, hb1⟩
  have Hat1 := Lib.hid (Hat.out.below hb1)
  go_wp2_with (refine wpList_load_row rfl 42 _ rfl w.heap.size rfl 42 p.cells (0, 0) _ Hat1.out Try.underlying42 rfl HI.out ?_)
  refine (W1.out _).mono ?_
  rintro e w2 ⟨rfl, hb2⟩
  have Hat2 := Lib.hid (Hat1.out.below hb2)
  go_wp2_with (refine wpList_load_row rfl 42 _ rfl w.heap.size rfl 42 p.cells (0, 0) _ Hat2.out Try.underlying42 rfl HI.out ?_)
  refine (W2.out _).mono ?_
  rintro e w3 ⟨rfl, hb3⟩
  have Hat3 := Lib.hid (Hat2.out.below hb3)
  go_wp2_with (refine wpList_load_row rfl 42 _ rfl w.heap.size rfl 42 p.cells (0, 0) _ Hat3.out Try.underlying42 rfl HI.out ?_)
  refine (W3.out _).mono ?_
  rintro e w4 ⟨rfl, hb4⟩
  have Hat4 := Lib.hid (Hat3.out.below hb4)
  go_wp2_with (refine wpList_load_row rfl 42 _ rfl w.heap.size rfl 42 p.cells (0, 0) _ Hat4.out Try.underlying42 rfl HI.out ?_)
  refine (RP.out _).mono ?_
  rintro e w5 ⟨rfl, hb5⟩
  have Hat5 := Lib.hid (Hat4.out.below hb5)
  have z1 := hb1.size
  have z2 := hb2.size
  have z3 := hb3.size
  have z4 := hb4.size
  simp at z1
  have hfin : Below w.heap.size w w5 := ((((hb0.trans (below_le hb1 (by simp))).trans (below_le hb2 (by omega))).trans (below_le hb3 (by omega))).trans (below_le hb4 (by omega))).trans (below_le hb5 (by omega))
  have z5 : w.heap.size ≤ w5.heap.size := hfin.size
  clear z1 z2 z3 z4 hb1 hb2 hb3 hb4 hb5
  go_wp2_with fail
  go_ret
  exact ⟨by simp, hfin⟩

set_option maxRecDepth 100000 in
set_option maxHeartbeats 1000000 in
theorem worth_lo_lo_hi (p : Pol) (a r g : Int) (w : World) (hok : p.ok = true) (hr : r < 0) (hg : g < 0) (ha : 1125899906842624 < a) : Calls Try.prog 9 #[.agg p.cells, .int .i64 a, .int .i64 r, .int .i64 g] w fun e w' => e = .returned (.bool true) ∧ Below w.heap.size w w' := by
  have Hat := Lib.hid (Pol.At.alloc p w)
  have HI := Lib.hid (pol_info p)
  have W1 := Lib.hid (worth_any p a r g)
  have W2 := Lib.hid (fee_any p a r)
  have W3 := Lib.hid (to_any p g)
  have RP := Lib.hid (ref_pol p)
  have hb0 : Below w.heap.size w (w.alloc (.cells p.cells 42)) := (Below.refl _ _).alloc (Nat.le_refl _) _
  have hm : monB a = false := by simp [monB]; omega
  have da : decide (a < 0) = false := by simp; omega
  have hr' : isK r = false := by simp [isK]; omega
  have hg' : isK g = false := by simp [isK]; omega
  have e1 : worthV p a r g = 0 ∧ worthE p a r g = 1 := by simp [worthV, worthE, hok, hr', hg']
  have e2 : feeV p a r = 0 ∧ feeE p a r = 1 := by simp [feeV, feeE, hok, hr']
  have e3 : toV p g = 0 ∧ toE p g = 1 := by simp [toV, toE, hok, hg']
  have dr : decide (0 ≤ r) = false := by simp; omega
  have dg : decide (0 ≤ g) = false := by simp; omega
  rw [e1.1, e1.2] at W1
  rw [e2.1, e2.2] at W2
  rw [e3.1, e3.2] at W3
  rw [hok] at RP
  clear e1 e2 e3 hm hr' hg' hok
  go_enter Try.func9, Try.ntmps9
  go_wp2_with fail
  refine (awake09 _).mono ?_
  rintro e w1 ⟨rfl, hb1⟩
  have Hat1 := Lib.hid (Hat.out.below hb1)
  go_wp2_with (refine wpList_load_row rfl 42 _ rfl w.heap.size rfl 42 p.cells (0, 0) _ Hat1.out Try.underlying42 rfl HI.out ?_)
  refine (W1.out _).mono ?_
  rintro e w2 ⟨rfl, hb2⟩
  have Hat2 := Lib.hid (Hat1.out.below hb2)
  go_wp2_with (refine wpList_load_row rfl 42 _ rfl w.heap.size rfl 42 p.cells (0, 0) _ Hat2.out Try.underlying42 rfl HI.out ?_)
  refine (W2.out _).mono ?_
  rintro e w3 ⟨rfl, hb3⟩
  have Hat3 := Lib.hid (Hat2.out.below hb3)
  go_wp2_with (refine wpList_load_row rfl 42 _ rfl w.heap.size rfl 42 p.cells (0, 0) _ Hat3.out Try.underlying42 rfl HI.out ?_)
  refine (W3.out _).mono ?_
  rintro e w4 ⟨rfl, hb4⟩
  have Hat4 := Lib.hid (Hat3.out.below hb4)
  go_wp2_with (refine wpList_load_row rfl 42 _ rfl w.heap.size rfl 42 p.cells (0, 0) _ Hat4.out Try.underlying42 rfl HI.out ?_)
  refine (RP.out _).mono ?_
  rintro e w5 ⟨rfl, hb5⟩
  have Hat5 := Lib.hid (Hat4.out.below hb5)
  have z1 := hb1.size
  have z2 := hb2.size
  have z3 := hb3.size
  have z4 := hb4.size
  simp at z1
  have hfin : Below w.heap.size w w5 := ((((hb0.trans (below_le hb1 (by simp))).trans (below_le hb2 (by omega))).trans (below_le hb3 (by omega))).trans (below_le hb4 (by omega))).trans (below_le hb5 (by omega))
  have z5 : w.heap.size ≤ w5.heap.size := hfin.size
  clear z1 z2 z3 z4 hb1 hb2 hb3 hb4 hb5
  go_wp2_with fail
  go_ret
  exact ⟨by simp, hfin⟩

set_option maxRecDepth 100000 in
set_option maxHeartbeats 1000000 in
theorem worth_lo_lo_ok (p : Pol) (a r g : Int) (w : World) (hok : p.ok = true) (hr : r < 0) (hg : g < 0) (hm : monB a = true) : Calls Try.prog 9 #[.agg p.cells, .int .i64 a, .int .i64 r, .int .i64 g] w fun e w' => e = .returned (.bool true) ∧ Below w.heap.size w w' := by
  have Hat := Lib.hid (Pol.At.alloc p w)
  have HI := Lib.hid (pol_info p)
  have W1 := Lib.hid (worth_any p a r g)
  have W2 := Lib.hid (fee_any p a r)
  have W3 := Lib.hid (to_any p g)
  have RP := Lib.hid (ref_pol p)
  have hb0 : Below w.heap.size w (w.alloc (.cells p.cells 42)) := (Below.refl _ _).alloc (Nat.le_refl _) _
  obtain ⟨ha0, ha1⟩ := monB_iff.1 hm
  have da : decide (a < 0) = false := by simp; omega
  have hr' : isK r = false := by simp [isK]; omega
  have hg' : isK g = false := by simp [isK]; omega
  have e1 : worthV p a r g = 0 ∧ worthE p a r g = 1 := by simp [worthV, worthE, hok, hr', hg']
  have e2 : feeV p a r = 0 ∧ feeE p a r = 1 := by simp [feeV, feeE, hok, hr']
  have e3 : toV p g = 0 ∧ toE p g = 1 := by simp [toV, toE, hok, hg']
  have dr : decide (0 ≤ r) = false := by simp; omega
  have dg : decide (0 ≤ g) = false := by simp; omega
  rw [e1.1, e1.2] at W1
  rw [e2.1, e2.2] at W2
  rw [e3.1, e3.2] at W3
  rw [hok] at RP
  clear e1 e2 e3 hm hr' hg' hok
  go_enter Try.func9, Try.ntmps9
  go_wp2_with fail
  refine (awake09 _).mono ?_
  rintro e w1 ⟨rfl, hb1⟩
  have Hat1 := Lib.hid (Hat.out.below hb1)
  go_wp2_with (refine wpList_load_row rfl 42 _ rfl w.heap.size rfl 42 p.cells (0, 0) _ Hat1.out Try.underlying42 rfl HI.out ?_)
  refine (W1.out _).mono ?_
  rintro e w2 ⟨rfl, hb2⟩
  have Hat2 := Lib.hid (Hat1.out.below hb2)
  go_wp2_with (refine wpList_load_row rfl 42 _ rfl w.heap.size rfl 42 p.cells (0, 0) _ Hat2.out Try.underlying42 rfl HI.out ?_)
  refine (W2.out _).mono ?_
  rintro e w3 ⟨rfl, hb3⟩
  have Hat3 := Lib.hid (Hat2.out.below hb3)
  go_wp2_with (refine wpList_load_row rfl 42 _ rfl w.heap.size rfl 42 p.cells (0, 0) _ Hat3.out Try.underlying42 rfl HI.out ?_)
  refine (W3.out _).mono ?_
  rintro e w4 ⟨rfl, hb4⟩
  have Hat4 := Lib.hid (Hat3.out.below hb4)
  go_wp2_with (refine wpList_load_row rfl 42 _ rfl w.heap.size rfl 42 p.cells (0, 0) _ Hat4.out Try.underlying42 rfl HI.out ?_)
  refine (RP.out _).mono ?_
  rintro e w5 ⟨rfl, hb5⟩
  have Hat5 := Lib.hid (Hat4.out.below hb5)
  have z1 := hb1.size
  have z2 := hb2.size
  have z3 := hb3.size
  have z4 := hb4.size
  simp at z1
  have hfin : Below w.heap.size w w5 := ((((hb0.trans (below_le hb1 (by simp))).trans (below_le hb2 (by omega))).trans (below_le hb3 (by omega))).trans (below_le hb4 (by omega))).trans (below_le hb5 (by omega))
  have z5 : w.heap.size ≤ w5.heap.size := hfin.size
  clear z1 z2 z3 z4 hb1 hb2 hb3 hb4 hb5
  go_wp2_with fail
  go_ret
  exact ⟨by simp, hfin⟩

set_option maxRecDepth 100000 in
set_option maxHeartbeats 1000000 in
theorem worth0_lo_hi (p : Pol) (a r g : Int) (w : World) (hok : p.ok = false) (hr : r < 0) (hg : 4 ≤ g) : Calls Try.prog 9 #[.agg p.cells, .int .i64 a, .int .i64 r, .int .i64 g] w fun e w' => e = .returned (.bool true) ∧ Below w.heap.size w w' := by
  have Hat := Lib.hid (Pol.At.alloc p w)
  have HI := Lib.hid (pol_info p)
  have W1 := Lib.hid (worth_any p a r g)
  have W2 := Lib.hid (fee_any p a r)
  have W3 := Lib.hid (to_any p g)
  have RP := Lib.hid (ref_pol p)
  have hb0 : Below w.heap.size w (w.alloc (.cells p.cells 42)) := (Below.refl _ _).alloc (Nat.le_refl _) _
  have dr : decide (0 ≤ r) = false := by simp; omega
  have dg0 : 0 ≤ g := by omega
  have dg : decide (g < 4) = false := by simp; omega
  have e1 : worthV p a r g = 0 ∧ worthE p a r g = 10 := by simp [worthV, worthE, hok]
  have e2 : feeV p a r = 0 ∧ feeE p a r = 10 := by simp [feeV, feeE, hok]
  have e3 : toV p g = 0 ∧ toE p g = 10 := by simp [toV, toE, hok]
  rw [e1.1, e1.2] at W1
  rw [e2.1, e2.2] at W2
  rw [e3.1, e3.2] at W3
  rw [hok] at RP
  clear e1 e2 e3
  go_enter Try.func9, Try.ntmps9
  go_wp2_with fail
  refine (awake09 _).mono ?_
  rintro e w1 ⟨rfl, hb1⟩
  have Hat1 := Lib.hid (Hat.out.below hb1)
  go_wp2_with (refine wpList_load_row rfl 42 _ rfl w.heap.size rfl 42 p.cells (0, 0) _ Hat1.out Try.underlying42 rfl HI.out ?_)
  refine (W1.out _).mono ?_
  rintro e w2 ⟨rfl, hb2⟩
  have Hat2 := Lib.hid (Hat1.out.below hb2)
  go_wp2_with (refine wpList_load_row rfl 42 _ rfl w.heap.size rfl 42 p.cells (0, 0) _ Hat2.out Try.underlying42 rfl HI.out ?_)
  refine (W2.out _).mono ?_
  rintro e w3 ⟨rfl, hb3⟩
  have Hat3 := Lib.hid (Hat2.out.below hb3)
  go_wp2_with (refine wpList_load_row rfl 42 _ rfl w.heap.size rfl 42 p.cells (0, 0) _ Hat3.out Try.underlying42 rfl HI.out ?_)
  refine (W3.out _).mono ?_
  rintro e w4 ⟨rfl, hb4⟩
  have Hat4 := Lib.hid (Hat3.out.below hb4)
  go_wp2_with (refine wpList_load_row rfl 42 _ rfl w.heap.size rfl 42 p.cells (0, 0) _ Hat4.out Try.underlying42 rfl HI.out ?_)
  refine (RP.out _).mono ?_
  rintro e w5 ⟨rfl, hb5⟩
  have Hat5 := Lib.hid (Hat4.out.below hb5)
  have z1 := hb1.size
  have z2 := hb2.size
  have z3 := hb3.size
  have z4 := hb4.size
  simp at z1
  have hfin : Below w.heap.size w w5 := ((((hb0.trans (below_le hb1 (by simp))).trans (below_le hb2 (by omega))).trans (below_le hb3 (by omega))).trans (below_le hb4 (by omega))).trans (below_le hb5 (by omega))
  have z5 : w.heap.size ≤ w5.heap.size := hfin.size
  clear z1 z2 z3 z4 hb1 hb2 hb3 hb4 hb5
  go_wp2_with fail
  go_ret
  exact ⟨by simp, hfin⟩

set_option maxRecDepth 100000 in
set_option maxHeartbeats 1000000 in
theorem worth_lo_hi_lo (p : Pol) (a r g : Int) (w : World) (hok : p.ok = true) (hr : r < 0) (hg : 4 ≤ g) (ha : a < 0) : Calls Try.prog 9 #[.agg p.cells, .int .i64 a, .int .i64 r, .int .i64 g] w fun e w' => e = .returned (.bool true) ∧ Below w.heap.size w w' := by
  have Hat := Lib.hid (Pol.At.alloc p w)
  have HI := Lib.hid (pol_info p)
  have W1 := Lib.hid (worth_any p a r g)
  have W2 := Lib.hid (fee_any p a r)
  have W3 := Lib.hid (to_any p g)
  have RP := Lib.hid (ref_pol p)
  have hb0 : Below w.heap.size w (w.alloc (.cells p.cells 42)) := (Below.refl _ _).alloc (Nat.le_refl _) _
  have hm : monB a = false := by simp [monB]; omega
  have hr' : isK r = false := by simp [isK]; omega
  have hg' : isK g = false := by simp [isK]; omega
  have e1 : worthV p a r g = 0 ∧ worthE p a r g = 1 := by simp [worthV, worthE, hok, hr', hg']
  have e2 : feeV p a r = 0 ∧ feeE p a r = 1 := by simp [feeV, feeE, hok, hr']
  have e3 : toV p g = 0 ∧ toE p g = 1 := by simp [toV, toE, hok, hg']
  have dr : decide (0 ≤ r) = false := by simp; omega
  have dg0 : 0 ≤ g := by omega
  have dg : decide (g < 4) = false := by simp; omega
  rw [e1.1, e1.2] at W1
  rw [e2.1, e2.2] at W2
  rw [e3.1, e3.2] at W3
  rw [hok] at RP
  clear e1 e2 e3 hm hr' hg' hok
  go_enter Try.func9, Try.ntmps9
  go_wp2_with fail
  refine (awake09 _).mono ?_
  rintro e w1 ⟨rfl, hb1⟩
  have Hat1 := Lib.hid (Hat.out.below hb1)
  go_wp2_with (refine wpList_load_row rfl 42 _ rfl w.heap.size rfl 42 p.cells (0, 0) _ Hat1.out Try.underlying42 rfl HI.out ?_)
  refine (W1.out _).mono ?_
  rintro e w2 ⟨rfl, hb2⟩
  have Hat2 := Lib.hid (Hat1.out.below hb2)
  go_wp2_with (refine wpList_load_row rfl 42 _ rfl w.heap.size rfl 42 p.cells (0, 0) _ Hat2.out Try.underlying42 rfl HI.out ?_)
  refine (W2.out _).mono ?_
  rintro e w3 ⟨rfl, hb3⟩
  have Hat3 := Lib.hid (Hat2.out.below hb3)
  go_wp2_with (refine wpList_load_row rfl 42 _ rfl w.heap.size rfl 42 p.cells (0, 0) _ Hat3.out Try.underlying42 rfl HI.out ?_)
  refine (W3.out _).mono ?_
  rintro e w4 ⟨rfl, hb4⟩
  have Hat4 := Lib.hid (Hat3.out.below hb4)
  go_wp2_with (refine wpList_load_row rfl 42 _ rfl w.heap.size rfl 42 p.cells (0, 0) _ Hat4.out Try.underlying42 rfl HI.out ?_)
  refine (RP.out _).mono ?_
  rintro e w5 ⟨rfl, hb5⟩
  have Hat5 := Lib.hid (Hat4.out.below hb5)
  have z1 := hb1.size
  have z2 := hb2.size
  have z3 := hb3.size
  have z4 := hb4.size
  simp at z1
  have hfin : Below w.heap.size w w5 := ((((hb0.trans (below_le hb1 (by simp))).trans (below_le hb2 (by omega))).trans (below_le hb3 (by omega))).trans (below_le hb4 (by omega))).trans (below_le hb5 (by omega))
  have z5 : w.heap.size ≤ w5.heap.size := hfin.size
  clear z1 z2 z3 z4 hb1 hb2 hb3 hb4 hb5
  go_wp2_with fail
  go_ret
  exact ⟨by simp, hfin⟩

set_option maxRecDepth 100000 in
set_option maxHeartbeats 1000000 in
theorem worth_lo_hi_hi (p : Pol) (a r g : Int) (w : World) (hok : p.ok = true) (hr : r < 0) (hg : 4 ≤ g) (ha : 1125899906842624 < a) : Calls Try.prog 9 #[.agg p.cells, .int .i64 a, .int .i64 r, .int .i64 g] w fun e w' => e = .returned (.bool true) ∧ Below w.heap.size w w' := by
  have Hat := Lib.hid (Pol.At.alloc p w)
  have HI := Lib.hid (pol_info p)
  have W1 := Lib.hid (worth_any p a r g)
  have W2 := Lib.hid (fee_any p a r)
  have W3 := Lib.hid (to_any p g)
  have RP := Lib.hid (ref_pol p)
  have hb0 : Below w.heap.size w (w.alloc (.cells p.cells 42)) := (Below.refl _ _).alloc (Nat.le_refl _) _
  have hm : monB a = false := by simp [monB]; omega
  have da : decide (a < 0) = false := by simp; omega
  have hr' : isK r = false := by simp [isK]; omega
  have hg' : isK g = false := by simp [isK]; omega
  have e1 : worthV p a r g = 0 ∧ worthE p a r g = 1 := by simp [worthV, worthE, hok, hr', hg']
  have e2 : feeV p a r = 0 ∧ feeE p a r = 1 := by simp [feeV, feeE, hok, hr']
  have e3 : toV p g = 0 ∧ toE p g = 1 := by simp [toV, toE, hok, hg']
  have dr : decide (0 ≤ r) = false := by simp; omega
  have dg0 : 0 ≤ g := by omega
  have dg : decide (g < 4) = false := by simp; omega
  rw [e1.1, e1.2] at W1
  rw [e2.1, e2.2] at W2
  rw [e3.1, e3.2] at W3
  rw [hok] at RP
  clear e1 e2 e3 hm hr' hg' hok
  go_enter Try.func9, Try.ntmps9
  go_wp2_with fail
  refine (awake09 _).mono ?_
  rintro e w1 ⟨rfl, hb1⟩
  have Hat1 := Lib.hid (Hat.out.below hb1)
  go_wp2_with (refine wpList_load_row rfl 42 _ rfl w.heap.size rfl 42 p.cells (0, 0) _ Hat1.out Try.underlying42 rfl HI.out ?_)
  refine (W1.out _).mono ?_
  rintro e w2 ⟨rfl, hb2⟩
  have Hat2 := Lib.hid (Hat1.out.below hb2)
  go_wp2_with (refine wpList_load_row rfl 42 _ rfl w.heap.size rfl 42 p.cells (0, 0) _ Hat2.out Try.underlying42 rfl HI.out ?_)
  refine (W2.out _).mono ?_
  rintro e w3 ⟨rfl, hb3⟩
  have Hat3 := Lib.hid (Hat2.out.below hb3)
  go_wp2_with (refine wpList_load_row rfl 42 _ rfl w.heap.size rfl 42 p.cells (0, 0) _ Hat3.out Try.underlying42 rfl HI.out ?_)
  refine (W3.out _).mono ?_
  rintro e w4 ⟨rfl, hb4⟩
  have Hat4 := Lib.hid (Hat3.out.below hb4)
  go_wp2_with (refine wpList_load_row rfl 42 _ rfl w.heap.size rfl 42 p.cells (0, 0) _ Hat4.out Try.underlying42 rfl HI.out ?_)
  refine (RP.out _).mono ?_
  rintro e w5 ⟨rfl, hb5⟩
  have Hat5 := Lib.hid (Hat4.out.below hb5)
  have z1 := hb1.size
  have z2 := hb2.size
  have z3 := hb3.size
  have z4 := hb4.size
  simp at z1
  have hfin : Below w.heap.size w w5 := ((((hb0.trans (below_le hb1 (by simp))).trans (below_le hb2 (by omega))).trans (below_le hb3 (by omega))).trans (below_le hb4 (by omega))).trans (below_le hb5 (by omega))
  have z5 : w.heap.size ≤ w5.heap.size := hfin.size
  clear z1 z2 z3 z4 hb1 hb2 hb3 hb4 hb5
  go_wp2_with fail
  go_ret
  exact ⟨by simp, hfin⟩

set_option maxRecDepth 100000 in
set_option maxHeartbeats 1000000 in
theorem worth_lo_hi_ok (p : Pol) (a r g : Int) (w : World) (hok : p.ok = true) (hr : r < 0) (hg : 4 ≤ g) (hm : monB a = true) : Calls Try.prog 9 #[.agg p.cells, .int .i64 a, .int .i64 r, .int .i64 g] w fun e w' => e = .returned (.bool true) ∧ Below w.heap.size w w' := by
  have Hat := Lib.hid (Pol.At.alloc p w)
  have HI := Lib.hid (pol_info p)
  have W1 := Lib.hid (worth_any p a r g)
  have W2 := Lib.hid (fee_any p a r)
  have W3 := Lib.hid (to_any p g)
  have RP := Lib.hid (ref_pol p)
  have hb0 : Below w.heap.size w (w.alloc (.cells p.cells 42)) := (Below.refl _ _).alloc (Nat.le_refl _) _
  obtain ⟨ha0, ha1⟩ := monB_iff.1 hm
  have da : decide (a < 0) = false := by simp; omega
  have hr' : isK r = false := by simp [isK]; omega
  have hg' : isK g = false := by simp [isK]; omega
  have e1 : worthV p a r g = 0 ∧ worthE p a r g = 1 := by simp [worthV, worthE, hok, hr', hg']
  have e2 : feeV p a r = 0 ∧ feeE p a r = 1 := by simp [feeV, feeE, hok, hr']
  have e3 : toV p g = 0 ∧ toE p g = 1 := by simp [toV, toE, hok, hg']
  have dr : decide (0 ≤ r) = false := by simp; omega
  have dg0 : 0 ≤ g := by omega
  have dg : decide (g < 4) = false := by simp; omega
  rw [e1.1, e1.2] at W1
  rw [e2.1, e2.2] at W2
  rw [e3.1, e3.2] at W3
  rw [hok] at RP
  clear e1 e2 e3 hm hr' hg' hok
  go_enter Try.func9, Try.ntmps9
  go_wp2_with fail
  refine (awake09 _).mono ?_
  rintro e w1 ⟨rfl, hb1⟩
  have Hat1 := Lib.hid (Hat.out.below hb1)
  go_wp2_with (refine wpList_load_row rfl 42 _ rfl w.heap.size rfl 42 p.cells (0, 0) _ Hat1.out Try.underlying42 rfl HI.out ?_)
  refine (W1.out _).mono ?_
  rintro e w2 ⟨rfl, hb2⟩
  have Hat2 := Lib.hid (Hat1.out.below hb2)
  go_wp2_with (refine wpList_load_row rfl 42 _ rfl w.heap.size rfl 42 p.cells (0, 0) _ Hat2.out Try.underlying42 rfl HI.out ?_)
  refine (W2.out _).mono ?_
  rintro e w3 ⟨rfl, hb3⟩
  have Hat3 := Lib.hid (Hat2.out.below hb3)
  go_wp2_with (refine wpList_load_row rfl 42 _ rfl w.heap.size rfl 42 p.cells (0, 0) _ Hat3.out Try.underlying42 rfl HI.out ?_)
  refine (W3.out _).mono ?_
  rintro e w4 ⟨rfl, hb4⟩
  have Hat4 := Lib.hid (Hat3.out.below hb4)
  go_wp2_with (refine wpList_load_row rfl 42 _ rfl w.heap.size rfl 42 p.cells (0, 0) _ Hat4.out Try.underlying42 rfl HI.out ?_)
  refine (RP.out _).mono ?_
  rintro e w5 ⟨rfl, hb5⟩
  have Hat5 := Lib.hid (Hat4.out.below hb5)
  have z1 := hb1.size
  have z2 := hb2.size
  have z3 := hb3.size
  have z4 := hb4.size
  simp at z1
  have hfin : Below w.heap.size w w5 := ((((hb0.trans (below_le hb1 (by simp))).trans (below_le hb2 (by omega))).trans (below_le hb3 (by omega))).trans (below_le hb4 (by omega))).trans (below_le hb5 (by omega))
  have z5 : w.heap.size ≤ w5.heap.size := hfin.size
  clear z1 z2 z3 z4 hb1 hb2 hb3 hb4 hb5
  go_wp2_with fail
  go_ret
  exact ⟨by simp, hfin⟩

set_option maxRecDepth 100000 in
set_option maxHeartbeats 1000000 in
theorem worth0_lo_in (p : Pol) (a r g : Int) (w : World) (hok : p.ok = false) (hr : r < 0) (hg : isK g = true) : Calls Try.prog 9 #[.agg p.cells, .int .i64 a, .int .i64 r, .int .i64 g] w fun e w' => e = .returned (.bool true) ∧ Below w.heap.size w w' := by
  have Hat := Lib.hid (Pol.At.alloc p w)
  have HI := Lib.hid (pol_info p)
  have W1 := Lib.hid (worth_any p a r g)
  have W2 := Lib.hid (fee_any p a r)
  have W3 := Lib.hid (to_any p g)
  have RP := Lib.hid (ref_pol p)
  have hb0 : Below w.heap.size w (w.alloc (.cells p.cells 42)) := (Below.refl _ _).alloc (Nat.le_refl _) _
  obtain ⟨g0, g4⟩ := isK_iff.1 hg
  have dr : decide (0 ≤ r) = false := by simp; omega
  have e1 : worthV p a r g = 0 ∧ worthE p a r g = 10 := by simp [worthV, worthE, hok]
  have e2 : feeV p a r = 0 ∧ feeE p a r = 10 := by simp [feeV, feeE, hok]
  have e3 : toV p g = 0 ∧ toE p g = 10 := by simp [toV, toE, hok]
  rw [e1.1, e1.2] at W1
  rw [e2.1, e2.2] at W2
  rw [e3.1, e3.2] at W3
  rw [hok] at RP
  clear e1 e2 e3
  go_enter Try.func9, Try.ntmps9
  go_wp2_with fail
  refine (awake09 _).mono ?_
  rintro e w1 ⟨rfl, hb1⟩
  have Hat1 := Lib.hid (Hat.out.below hb1)
  go_wp2_with (refine wpList_load_row rfl 42 _ rfl w.heap.size rfl 42 p.cells (0, 0) _ Hat1.out Try.underlying42 rfl HI.out ?_)
  refine (W1.out _).mono ?_
  rintro e w2 ⟨rfl, hb2⟩
  have Hat2 := Lib.hid (Hat1.out.below hb2)
  go_wp2_with (refine wpList_load_row rfl 42 _ rfl w.heap.size rfl 42 p.cells (0, 0) _ Hat2.out Try.underlying42 rfl HI.out ?_)
  refine (W2.out _).mono ?_
  rintro e w3 ⟨rfl, hb3⟩
  have Hat3 := Lib.hid (Hat2.out.below hb3)
  go_wp2_with (refine wpList_load_row rfl 42 _ rfl w.heap.size rfl 42 p.cells (0, 0) _ Hat3.out Try.underlying42 rfl HI.out ?_)
  refine (W3.out _).mono ?_
  rintro e w4 ⟨rfl, hb4⟩
  have Hat4 := Lib.hid (Hat3.out.below hb4)
  go_wp2_with (refine wpList_load_row rfl 42 _ rfl w.heap.size rfl 42 p.cells (0, 0) _ Hat4.out Try.underlying42 rfl HI.out ?_)
  refine (RP.out _).mono ?_
  rintro e w5 ⟨rfl, hb5⟩
  have Hat5 := Lib.hid (Hat4.out.below hb5)
  have z1 := hb1.size
  have z2 := hb2.size
  have z3 := hb3.size
  have z4 := hb4.size
  simp at z1
  have hfin : Below w.heap.size w w5 := ((((hb0.trans (below_le hb1 (by simp))).trans (below_le hb2 (by omega))).trans (below_le hb3 (by omega))).trans (below_le hb4 (by omega))).trans (below_le hb5 (by omega))
  have z5 : w.heap.size ≤ w5.heap.size := hfin.size
  clear z1 z2 z3 z4 hb1 hb2 hb3 hb4 hb5
  go_wp2_with fail
  go_ret
  exact ⟨by simp, hfin⟩

set_option maxRecDepth 100000 in
set_option maxHeartbeats 1000000 in
theorem worth_lo_in_lo (p : Pol) (a r g : Int) (w : World) (hok : p.ok = true) (hr : r < 0) (hg : isK g = true) (ha : a < 0) : Calls Try.prog 9 #[.agg p.cells, .int .i64 a, .int .i64 r, .int .i64 g] w fun e w' => e = .returned (.bool true) ∧ Below w.heap.size w w' := by
  have Hat := Lib.hid (Pol.At.alloc p w)
  have HI := Lib.hid (pol_info p)
  have W1 := Lib.hid (worth_any p a r g)
  have W2 := Lib.hid (fee_any p a r)
  have W3 := Lib.hid (to_any p g)
  have RP := Lib.hid (ref_pol p)
  have hb0 : Below w.heap.size w (w.alloc (.cells p.cells 42)) := (Below.refl _ _).alloc (Nat.le_refl _) _
  have hm : monB a = false := by simp [monB]; omega
  have hr' : isK r = false := by simp [isK]; omega
  obtain ⟨g0, g4⟩ := isK_iff.1 hg
  have CT : Hid (∀ w2, p.At w2 w.heap.size → w2.cell? ⟨w.heap.size, 8 + g.toNat * 2 + 1, none⟩ = some (.int .i64 (p.T g.toNat))) := Lib.hid (fun w2 h => h.to g.toNat (by omega))
  have e1 : worthV p a r g = 0 ∧ worthE p a r g = 1 := by simp [worthV, worthE, hok, hr', hg]
  have e2 : feeV p a r = 0 ∧ feeE p a r = 1 := by simp [feeV, feeE, hok, hr']
  have e3 : toV p g = p.T g.toNat ∧ toE p g = 0 := by simp [toV, toE, hok, hg]
  have dr : decide (0 ≤ r) = false := by simp; omega
  rw [e1.1, e1.2] at W1
  rw [e2.1, e2.2] at W2
  rw [e3.1, e3.2] at W3
  rw [hok] at RP
  clear e1 e2 e3 hm hr' hg hok
  generalize p.T g.toNat = tt at *
  go_enter Try.func9, Try.ntmps9
  go_wp2_with fail
  refine (awake09 _).mono ?_
  rintro e w1 ⟨rfl, hb1⟩
  have Hat1 := Lib.hid (Hat.out.below hb1)
  go_wp2_with (refine wpList_load_row rfl 42 _ rfl w.heap.size rfl 42 p.cells (0, 0) _ Hat1.out Try.underlying42 rfl HI.out ?_)
  refine (W1.out _).mono ?_
  rintro e w2 ⟨rfl, hb2⟩
  have Hat2 := Lib.hid (Hat1.out.below hb2)
  go_wp2_with (refine wpList_load_row rfl 42 _ rfl w.heap.size rfl 42 p.cells (0, 0) _ Hat2.out Try.underlying42 rfl HI.out ?_)
  refine (W2.out _).mono ?_
  rintro e w3 ⟨rfl, hb3⟩
  have Hat3 := Lib.hid (Hat2.out.below hb3)
  go_wp2_with (refine wpList_load_row rfl 42 _ rfl w.heap.size rfl 42 p.cells (0, 0) _ Hat3.out Try.underlying42 rfl HI.out ?_)
  refine (W3.out _).mono ?_
  rintro e w4 ⟨rfl, hb4⟩
  have Hat4 := Lib.hid (Hat3.out.below hb4)
  go_wp2_with (refine wpList_load_row rfl 42 _ rfl w.heap.size rfl 42 p.cells (0, 0) _ Hat4.out Try.underlying42 rfl HI.out ?_)
  refine (RP.out _).mono ?_
  rintro e w5 ⟨rfl, hb5⟩
  have Hat5 := Lib.hid (Hat4.out.below hb5)
  have z1 := hb1.size
  have z2 := hb2.size
  have z3 := hb3.size
  have z4 := hb4.size
  simp at z1
  have hfin : Below w.heap.size w w5 := ((((hb0.trans (below_le hb1 (by simp))).trans (below_le hb2 (by omega))).trans (below_le hb3 (by omega))).trans (below_le hb4 (by omega))).trans (below_le hb5 (by omega))
  have z5 : w.heap.size ≤ w5.heap.size := hfin.size
  clear z1 z2 z3 z4 hb1 hb2 hb3 hb4 hb5
  have ct := CT.out _ Hat5.out
  go_wp2_with fail
  go_ret
  exact ⟨by simp, hfin⟩

set_option maxRecDepth 100000 in
set_option maxHeartbeats 1000000 in
theorem worth_lo_in_hi (p : Pol) (a r g : Int) (w : World) (hok : p.ok = true) (hr : r < 0) (hg : isK g = true) (ha : 1125899906842624 < a) : Calls Try.prog 9 #[.agg p.cells, .int .i64 a, .int .i64 r, .int .i64 g] w fun e w' => e = .returned (.bool true) ∧ Below w.heap.size w w' := by
  have Hat := Lib.hid (Pol.At.alloc p w)
  have HI := Lib.hid (pol_info p)
  have W1 := Lib.hid (worth_any p a r g)
  have W2 := Lib.hid (fee_any p a r)
  have W3 := Lib.hid (to_any p g)
  have RP := Lib.hid (ref_pol p)
  have hb0 : Below w.heap.size w (w.alloc (.cells p.cells 42)) := (Below.refl _ _).alloc (Nat.le_refl _) _
  have hm : monB a = false := by simp [monB]; omega
  have da : decide (a < 0) = false := by simp; omega
  have hr' : isK r = false := by simp [isK]; omega
  obtain ⟨g0, g4⟩ := isK_iff.1 hg
  have CT : Hid (∀ w2, p.At w2 w.heap.size → w2.cell? ⟨w.heap.size, 8 + g.toNat * 2 + 1, none⟩ = some (.int .i64 (p.T g.toNat))) := Lib.hid (fun w2 h => h.to g.toNat (by omega))
  have e1 : worthV p a r g = 0 ∧ worthE p a r g = 1 := by simp [worthV, worthE, hok, hr', hg]
  have e2 : feeV p a r = 0 ∧ feeE p a r = 1 := by simp [feeV, feeE, hok, hr']
  have e3 : toV p g = p.T g.toNat ∧ toE p g = 0 := by simp [toV, toE, hok, hg]
  have dr : decide (0 ≤ r) = false := by simp; omega
  rw [e1.1, e1.2] at W1
  rw [e2.1, e2.2] at W2
  rw [e3.1, e3.2] at W3
  rw [hok] at RP
  clear e1 e2 e3 hm hr' hg hok
  generalize p.T g.toNat = tt at *
  go_enter Try.func9, Try.ntmps9
  go_wp2_with fail
  refine (awake09 _).mono ?_
  rintro e w1 ⟨rfl, hb1⟩
  have Hat1 := Lib.hid (Hat.out.below hb1)
  go_wp2_with (refine wpList_load_row rfl 42 _ rfl w.heap.size rfl 42 p.cells (0, 0) _ Hat1.out Try.underlying42 rfl HI.out ?_)
  refine (W1.out _).mono ?_
  rintro e w2 ⟨rfl, hb2⟩
  have Hat2 := Lib.hid (Hat1.out.below hb2)
  go_wp2_with (refine wpList_load_row rfl 42 _ rfl w.heap.size rfl 42 p.cells (0, 0) _ Hat2.out Try.underlying42 rfl HI.out ?_)
  refine (W2.out _).mono ?_
  rintro e w3 ⟨rfl, hb3⟩
  have Hat3 := Lib.hid (Hat2.out.below hb3)
  go_wp2_with (refine wpList_load_row rfl 42 _ rfl w.heap.size rfl 42 p.cells (0, 0) _ Hat3.out Try.underlying42 rfl HI.out ?_)
  refine (W3.out _).mono ?_
  rintro e w4 ⟨rfl, hb4⟩
  have Hat4 := Lib.hid (Hat3.out.below hb4)
  go_wp2_with (refine wpList_load_row rfl 42 _ rfl w.heap.size rfl 42 p.cells (0, 0) _ Hat4.out Try.underlying42 rfl HI.out ?_)
  refine (RP.out _).mono ?_
  rintro e w5 ⟨rfl, hb5⟩
  have Hat5 := Lib.hid (Hat4.out.below hb5)
  have z1 := hb1.size
  have z2 := hb2.size
  have z3 := hb3.size
  have z4 := hb4.size
  simp at z1
  have hfin : Below w.heap.size w w5 := ((((hb0.trans (below_le hb1 (by simp))).trans (below_le hb2 (by omega))).trans (below_le hb3 (by omega))).trans (below_le hb4 (by omega))).trans (below_le hb5 (by omega))
  have z5 : w.heap.size ≤ w5.heap.size := hfin.size
  clear z1 z2 z3 z4 hb1 hb2 hb3 hb4 hb5
  have ct := CT.out _ Hat5.out
  go_wp2_with fail
  go_ret
  exact ⟨by simp, hfin⟩

set_option maxRecDepth 100000 in
set_option maxHeartbeats 1000000 in
theorem worth_lo_in_ok (p : Pol) (a r g : Int) (w : World) (hok : p.ok = true) (hr : r < 0) (hg : isK g = true) (hm : monB a = true) : Calls Try.prog 9 #[.agg p.cells, .int .i64 a, .int .i64 r, .int .i64 g] w fun e w' => e = .returned (.bool true) ∧ Below w.heap.size w w' := by
  have Hat := Lib.hid (Pol.At.alloc p w)
  have HI := Lib.hid (pol_info p)
  have W1 := Lib.hid (worth_any p a r g)
  have W2 := Lib.hid (fee_any p a r)
  have W3 := Lib.hid (to_any p g)
  have RP := Lib.hid (ref_pol p)
  have hb0 : Below w.heap.size w (w.alloc (.cells p.cells 42)) := (Below.refl _ _).alloc (Nat.le_refl _) _
  obtain ⟨ha0, ha1⟩ := monB_iff.1 hm
  have da : decide (a < 0) = false := by simp; omega
  have hr' : isK r = false := by simp [isK]; omega
  obtain ⟨g0, g4⟩ := isK_iff.1 hg
  have CT : Hid (∀ w2, p.At w2 w.heap.size → w2.cell? ⟨w.heap.size, 8 + g.toNat * 2 + 1, none⟩ = some (.int .i64 (p.T g.toNat))) := Lib.hid (fun w2 h => h.to g.toNat (by omega))
  have e1 : worthV p a r g = 0 ∧ worthE p a r g = 1 := by simp [worthV, worthE, hok, hr', hg]
  have e2 : feeV p a r = 0 ∧ feeE p a r = 1 := by simp [feeV, feeE, hok, hr']
  have e3 : toV p g = p.T g.toNat ∧ toE p g = 0 := by simp [toV, toE, hok, hg]
  have dr : decide (0 ≤ r) = false := by simp; omega
  rw [e1.1, e1.2] at W1
  rw [e2.1, e2.2] at W2
  rw [e3.1, e3.2] at W3
  rw [hok] at RP
  clear e1 e2 e3 hm hr' hg hok
  generalize p.T g.toNat = tt at *
  go_enter Try.func9, Try.ntmps9
  go_wp2_with fail
  refine (awake09 _).mono ?_
  rintro e w1 ⟨rfl, hb1⟩
  have Hat1 := Lib.hid (Hat.out.below hb1)
  go_wp2_with (refine wpList_load_row rfl 42 _ rfl w.heap.size rfl 42 p.cells (0, 0) _ Hat1.out Try.underlying42 rfl HI.out ?_)
  refine (W1.out _).mono ?_
  rintro e w2 ⟨rfl, hb2⟩
  have Hat2 := Lib.hid (Hat1.out.below hb2)
  go_wp2_with (refine wpList_load_row rfl 42 _ rfl w.heap.size rfl 42 p.cells (0, 0) _ Hat2.out Try.underlying42 rfl HI.out ?_)
  refine (W2.out _).mono ?_
  rintro e w3 ⟨rfl, hb3⟩
  have Hat3 := Lib.hid (Hat2.out.below hb3)
  go_wp2_with (refine wpList_load_row rfl 42 _ rfl w.heap.size rfl 42 p.cells (0, 0) _ Hat3.out Try.underlying42 rfl HI.out ?_)
  refine (W3.out _).mono ?_
  rintro e w4 ⟨rfl, hb4⟩
  have Hat4 := Lib.hid (Hat3.out.below hb4)
  go_wp2_with (refine wpList_load_row rfl 42 _ rfl w.heap.size rfl 42 p.cells (0, 0) _ Hat4.out Try.underlying42 rfl HI.out ?_)
  refine (RP.out _).mono ?_
  rintro e w5 ⟨rfl, hb5⟩
  have Hat5 := Lib.hid (Hat4.out.below hb5)
  have z1 := hb1.size
  have z2 := hb2.size
  have z3 := hb3.size
  have z4 := hb4.size
  simp at z1
  have hfin : Below w.heap.size w w5 := ((((hb0.trans (below_le hb1 (by simp))).trans (below_le hb2 (by omega))).trans (below_le hb3 (by omega))).trans (below_le hb4 (by omega))).trans (below_le hb5 (by omega))
  have z5 : w.heap.size ≤ w5.heap.size := hfin.size
  clear z1 z2 z3 z4 hb1 hb2 hb3 hb4 hb5
  have ct := CT.out _ Hat5.out
  go_wp2_with fail
  go_ret
  exact ⟨by simp, hfin⟩

set_option maxRecDepth 100000 in
set_option maxHeartbeats 1000000 in
theorem worth0_hi_lo (p : Pol) (a r g : Int) (w : World) (hok : p.ok = false) (hr : 4 ≤ r) (hg : g < 0) : Calls Try.prog 9 #[.agg p.cells, .int .i64 a, .int .i64 r, .int .i64 g] w fun e w' => e = .returned (.bool true) ∧ Below w.heap.size w w' := by
  have Hat := Lib.hid (Pol.At.alloc p w)
  have HI := Lib.hid (pol_info p)
  have W1 := Lib.hid (worth_any p a r g)
  have W2 := Lib.hid (fee_any p a r)
  have W3 := Lib.hid (to_any p g)
  have RP := Lib.hid (ref_pol p)
  have hb0 : Below w.heap.size w (w.alloc (.cells p.cells 42)) := (Below.refl _ _).alloc (Nat.le_refl _) _
  have dr0 : 0 ≤ r := by omega
  have dr : decide (r < 4) = false := by simp; omega
  have dg : decide (0 ≤ g) = false := by simp; omega
  have e1 : worthV p a r g = 0 ∧ worthE p a r g = 10 := by simp [worthV, worthE, hok]
  have e2 : feeV p a r = 0 ∧ feeE p a r = 10 := by simp [feeV, feeE, hok]
  have e3 : toV p g = 0 ∧ toE p g = 10 := by simp [toV, toE, hok]
  rw [e1.1, e1.2] at W1
  rw [e2.1, e2.2] at W2
  rw [e3.1, e3.2] at W3
  rw [hok] at RP
  clear e1 e2 e3
  go_enter Try.func9, Try.ntmps9
  go_wp2_with fail
  refine (awake09 _).mono ?_
  rintro e w1 ⟨rfl, hb1⟩
  have Hat1 := Lib.hid (Hat.out.below hb1)
  go_wp2_with (refine wpList_load_row rfl 42 _ rfl w.heap.size rfl 42 p.cells (0, 0) _ Hat1.out Try.underlying42 rfl HI.out ?_)
  refine (W1.out _).mono ?_
  rintro e w2 ⟨rfl, hb2⟩
  have Hat2 := Lib.hid (Hat1.out.below hb2)
  go_wp2_with (refine wpList_load_row rfl 42 _ rfl w.heap.size rfl 42 p.cells (0, 0) _ Hat2.out Try.underlying42 rfl HI.out ?_)
  refine (W2.out _).mono ?_
  rintro e w3 ⟨rfl, hb3⟩
  have Hat3 := Lib.hid (Hat2.out.below hb3)
  go_wp2_with (refine wpList_load_row rfl 42 _ rfl w.heap.size rfl 42 p.cells (0, 0) _ Hat3.out Try.underlying42 rfl HI.out ?_)
  refine (W3.out _).mono ?_
  rintro e w4 ⟨rfl, hb4⟩
  have Hat4 := Lib.hid (Hat3.out.below hb4)
  go_wp2_with (refine wpList_load_row rfl 42 _ rfl w.heap.size rfl 42 p.cells (0, 0) _ Hat4.out Try.underlying42 rfl HI.out ?_)
  refine (RP.out _).mono ?_
  rintro e w5 ⟨rfl, hb5⟩
  have Hat5 := Lib.hid (Hat4.out.below hb5)
  have z1 := hb1.size
  have z2 := hb2.size
  have z3 := hb3.size
  have z4 := hb4.size
  simp at z1
  have hfin : Below w.heap.size w w5 := ((((hb0.trans (below_le hb1 (by simp))).trans (below_le hb2 (by omega))).trans (below_le hb3 (by omega))).trans (below_le hb4 (by omega))).trans (below_le hb5 (by omega))
  have z5 : w.heap.size ≤ w5.heap.size := hfin.size
  clear z1 z2 z3 z4 hb1 hb2 hb3 hb4 hb5
  go_wp2_with fail
  go_ret
  exact ⟨by simp, hfin⟩

set_option maxRecDepth 100000 in
set_option maxHeartbeats 1000000 in
theorem worth_hi_lo_lo (p : Pol) (a r g : Int) (w : World) (hok : p.ok = true) (hr : 4 ≤ r) (hg : g < 0) (ha : a < 0) : Calls Try.prog 9 #[.agg p.cells, .int .i64 a, .int .i64 r, .int .i64 g] w fun e w' => e = .returned (.bool true) ∧ Below w.heap.size w w' := by
  have Hat := Lib.hid (Pol.At.alloc p w)
  have HI := Lib.hid (pol_info p)
  have W1 := Lib.hid (worth_any p a r g)
  have W2 := Lib.hid (fee_any p a r)
  have W3 := Lib.hid (to_any p g)
  have RP := Lib.hid (ref_pol p)
  have hb0 : Below w.heap.size w (w.alloc (.cells p.cells 42)) := (Below.refl _ _).alloc (Nat.le_refl _) _
  have hm : monB a = false := by simp [monB]; omega
  have hr' : isK r = false := by simp [isK]; omega
  have hg' : isK g = false := by simp [isK]; omega
  have e1 : worthV p a r g = 0 ∧ worthE p a r g = 1 := by simp [worthV, worthE, hok, hr', hg']
  have e2 : feeV p a r = 0 ∧ feeE p a r = 1 := by simp [feeV, feeE, hok, hr']
  have e3 : toV p g = 0 ∧ toE p g = 1 := by simp [toV, toE, hok, hg']
  have dr0 : 0 ≤ r := by omega
  have dr : decide (r < 4) = false := by simp; omega
  have dg : decide (0 ≤ g) = false := by simp; omega
  rw [e1.1, e1.2] at W1
  rw [e2.1, e2.2] at W2
  rw [e3.1, e3.2] at W3
  rw [hok] at RP
  clear e1 e2 e3 hm hr' hg' hok
  go_enter Try.func9, Try.ntmps9
  go_wp2_with fail
  refine (awake09 _).mono ?_
  rintro e w1 ⟨rfl, hb1⟩
  have Hat1 := Lib.hid (Hat.out.below hb1)
  go_wp2_with (refine wpList_load_row rfl 42 _ rfl w.heap.size rfl 42 p.cells (0, 0) _ Hat1.out Try.underlying42 rfl HI.out ?_)
  refine (W1.out _).mono ?_
  rintro e w2 ⟨rfl, hb2⟩
  have Hat2 := Lib.hid (Hat1.out.below hb2)
  go_wp2_with (refine wpList_load_row rfl 42 _ rfl w.heap.size rfl 42 p.cells (0, 0) _ Hat2.out Try.underlying42 rfl HI.out ?_)
  refine (W2.out _).mono ?_
  rintro e w3 ⟨rfl, hb3⟩
  have Hat3 := Lib.hid (Hat2.out.below hb3)
  go_wp2_with (refine wpList_load_row rfl 42 _ rfl w.heap.size rfl 42 p.cells (0, 0) _ Hat3.out Try.underlying42 rfl HI.out ?_)
  refine (W3.out _).mono ?_
  rintro e w4 ⟨rfl, hb4⟩
  have Hat4 := Lib.hid (Hat3.out.below hb4)
  go_wp2_with (refine wpList_load_row rfl 42 _ rfl w.heap.size rfl 42 p.cells (0, 0) _ Hat4.out Try.underlying42 rfl HI.out ?_)
  refine (RP.out _).mono ?_
  rintro e w5 ⟨rfl, hb5⟩
  have Hat5 := Lib.hid (Hat4.out.below hb5)
  have z1 := hb1.size
  have z2 := hb2.size
  have z3 := hb3.size
  have z4 := hb4.size
  simp at z1
  have hfin : Below w.heap.size w w5 := ((((hb0.trans (below_le hb1 (by simp))).trans (below_le hb2 (by omega))).trans (below_le hb3 (by omega))).trans (below_le hb4 (by omega))).trans (below_le hb5 (by omega))
  have z5 : w.heap.size ≤ w5.heap.size := hfin.size
  clear z1 z2 z3 z4 hb1 hb2 hb3 hb4 hb5
  go_wp2_with fail
  go_ret
  exact ⟨by simp, hfin⟩

set_option maxRecDepth 100000 in
set_option maxHeartbeats 1000000 in
theorem worth_hi_lo_hi (p : Pol) (a r g : Int) (w : World) (hok : p.ok = true) (hr : 4 ≤ r) (hg : g < 0) (ha : 1125899906842624 < a) : Calls Try.prog 9 #[.agg p.cells, .int .i64 a, .int .i64 r, .int .i64 g] w fun e w' => e = .returned (.bool true) ∧ Below w.heap.size w w' := by
  have Hat := Lib.hid (Pol.At.alloc p w)
  have HI := Lib.hid (pol_info p)
  have W1 := Lib.hid (worth_any p a r g)
  have W2 := Lib.hid (fee_any p a r)
  have W3 := Lib.hid (to_any p g)
  have RP := Lib.hid (ref_pol p)
  have hb0 : Below w.heap.size w (w.alloc (.cells p.cells 42)) := (Below.refl _ _).alloc (Nat.le_refl _) _
  have hm : monB a = false := by simp [monB]; omega
  have da : decide (a < 0) = false := by simp; omega
  have hr' : isK r = false := by simp [isK]; omega
  have hg' : isK g = false := by simp [isK]; omega
  have e1 : worthV p a r g = 0 ∧ worthE p a r g = 1 := by simp [worthV, worthE, hok, hr', hg']
  have e2 : feeV p a r = 0 ∧ feeE p a r = 1 := by simp [feeV, feeE, hok, hr']
  have e3 : toV p g = 0 ∧ toE p g = 1 := by simp [toV, toE, hok, hg']
  have dr0 : 0 ≤ r := by omega
  have dr : decide (r < 4) = false := by simp; omega
  have dg : decide (0 ≤ g) = false := by simp; omega
  rw [e1.1, e1.2] at W1
  rw [e2.1, e2.2] at W2
  rw [e3.1, e3.2] at W3
  rw [hok] at RP
  clear e1 e2 e3 hm hr' hg' hok
  go_enter Try.func9, Try.ntmps9
  go_wp2_with fail
  refine (awake09 _).mono ?_
  rintro e w1 ⟨rfl, hb1⟩
  have Hat1 := Lib.hid (Hat.out.below hb1)
  go_wp2_with (refine wpList_load_row rfl 42 _ rfl w.heap.size rfl 42 p.cells (0, 0) _ Hat1.out Try.underlying42 rfl HI.out ?_)
  refine (W1.out _).mono ?_
  rintro e w2 ⟨rfl, hb2⟩
  have Hat2 := Lib.hid (Hat1.out.below hb2)
  go_wp2_with (refine wpList_load_row rfl 42 _ rfl w.heap.size rfl 42 p.cells (0, 0) _ Hat2.out Try.underlying42 rfl HI.out ?_)
  refine (W2.out _).mono ?_
  rintro e w3 ⟨rfl, hb3⟩
  have Hat3 := Lib.hid (Hat2.out.below hb3)
  go_wp2_with (refine wpList_load_row rfl 42 _ rfl w.heap.size rfl 42 p.cells (0, 0) _ Hat3.out Try.underlying42 rfl HI.out ?_)
  refine (W3.out _).mono ?_
  rintro e w4 ⟨rfl, hb4⟩
  have Hat4 := Lib.hid (Hat3.out.below hb4)
  go_wp2_with (refine wpList_load_row rfl 42 _ rfl w.heap.size rfl 42 p.cells (0, 0) _ Hat4.out Try.underlying42 rfl HI.out ?_)
  refine (RP.out _).mono ?_
  rintro e w5 ⟨rfl, hb5⟩
  have Hat5 := Lib.hid (Hat4.out.below hb5)
  have z1 := hb1.size
  have z2 := hb2.size
  have z3 := hb3.size
  have z4 := hb4.size
  simp at z1
  have hfin : Below w.heap.size w w5 := ((((hb0.trans (below_le hb1 (by simp))).trans (below_le hb2 (by omega))).trans (below_le hb3 (by omega))).trans (below_le hb4 (by omega))).trans (below_le hb5 (by omega))
  have z5 : w.heap.size ≤ w5.heap.size := hfin.size
  clear z1 z2 z3 z4 hb1 hb2 hb3 hb4 hb5
  go_wp2_with fail
  go_ret
  exact ⟨by simp, hfin⟩

set_option maxRecDepth 100000 in
set_option maxHeartbeats 1000000 in
theorem worth_hi_lo_ok (p : Pol) (a r g : Int) (w : World) (hok : p.ok = true) (hr : 4 ≤ r) (hg : g < 0) (hm : monB a = true) : Calls Try.prog 9 #[.agg p.cells, .int .i64 a, .int .i64 r, .int .i64 g] w fun e w' => e = .returned (.bool true) ∧ Below w.heap.size w w' := by
  have Hat := Lib.hid (Pol.At.alloc p w)
  have HI := Lib.hid (pol_info p)
  have W1 := Lib.hid (worth_any p a r g)
  have W2 := Lib.hid (fee_any p a r)
  have W3 := Lib.hid (to_any p g)
  have RP := Lib.hid (ref_pol p)
  have hb0 : Below w.heap.size w (w.alloc (.cells p.cells 42)) := (Below.refl _ _).alloc (Nat.le_refl _) _
  obtain ⟨ha0, ha1⟩ := monB_iff.1 hm
  have da : decide (a < 0) = false := by simp; omega
  have hr' : isK r = false := by simp [isK]; omega
  have hg' : isK g = false := by simp [isK]; omega
  have e1 : worthV p a r g = 0 ∧ worthE p a r g = 1 := by simp [worthV, worthE, hok, hr', hg']
  have e2 : feeV p a r = 0 ∧ feeE p a r = 1 := by simp [feeV, feeE, hok, hr']
  have e3 : toV p g = 0 ∧ toE p g = 1 := by simp [toV, toE, hok, hg']
  have dr0 : 0 ≤ r := by omega
  have dr : decide (r < 4) = false := by simp; omega
  have dg : decide (0 ≤ g) = false := by simp; omega
  rw [e1.1, e1.2] at W1
  rw [e2.1, e2.2] at W2
  rw [e3.1, e3.2] at W3
  rw [hok] at RP
  clear e1 e2 e3 hm hr' hg' hok
  go_enter Try.func9, Try.ntmps9
  go_wp2_with fail
  refine (awake09 _).mono ?_
  rintro e w1 ⟨rfl, hb1⟩
  have Hat1 := Lib.hid (Hat.out.below hb1)
  go_wp2_with (refine wpList_load_row rfl 42 _ rfl w.heap.size rfl 42 p.cells (0, 0) _ Hat1.out Try.underlying42 rfl HI.out ?_)
  refine (W1.out _).mono ?_
  rintro e w2 ⟨rfl, hb2⟩
  have Hat2 := Lib.hid (Hat1.out.below hb2)
  go_wp2_with (refine wpList_load_row rfl 42 _ rfl w.heap.size rfl 42 p.cells (0, 0) _ Hat2.out Try.underlying42 rfl HI.out ?_)
  refine (W2.out _).mono ?_
  rintro e w3 ⟨rfl, hb3⟩
  have Hat3 := Lib.hid (Hat2.out.below hb3)
  go_wp2_with (refine wpList_load_row rfl 42 _ rfl w.heap.size rfl 42 p.cells (0, 0) _ Hat3.out Try.underlying42 rfl HI.out ?_)
  refine (W3.out _).mono ?_
  rintro e w4 ⟨rfl, hb4⟩
  have Hat4 := Lib.hid (Hat3.out.below hb4)
  go_wp2_with (refine wpList_load_row rfl 42 _ rfl w.heap.size rfl 42 p.cells (0, 0) _ Hat4.out Try.underlying42 rfl HI.out ?_)
  refine (RP.out _).mono ?_
  rintro e w5 ⟨rfl, hb5⟩
  have Hat5 := Lib.hid (Hat4.out.below hb5)
  have z1 := hb1.size
  have z2 := hb2.size
  have z3 := hb3.size
  have z4 := hb4.size
  simp at z1
  have hfin : Below w.heap.size w w5 := ((((hb0.trans (below_le hb1 (by simp))).trans (below_le hb2 (by omega))).trans (below_le hb3 (by omega))).trans (below_le hb4 (by omega))).trans (below_le hb5 (by omega))
  have z5 : w.heap.size ≤ w5.heap.size := hfin.size
  clear z1 z2 z3 z4 hb1 hb2 hb3 hb4 hb5
  go_wp2_with fail
  go_ret
  exact ⟨by simp, hfin⟩

set_option maxRecDepth 100000 in
set_option maxHeartbeats 1000000 in
theorem worth0_hi_hi (p : Pol) (a r g : Int) (w : World) (hok : p.ok = false) (hr : 4 ≤ r) (hg : 4 ≤ g) : Calls Try.prog 9 #[.agg p.cells, .int .i64 a, .int .i64 r, .int .i64 g] w fun e w' => e = .returned (.bool true) ∧ Below w.heap.size w w' := by
  have Hat := Lib.hid (Pol.At.alloc p w)
  have HI := Lib.hid (pol_info p)
  have W1 := Lib.hid (worth_any p a r g)
  have W2 := Lib.hid (fee_any p a r)
  have W3 := Lib.hid (to_any p g)
  have RP := Lib.hid (ref_pol p)
  have hb0 : Below w.heap.size w (w.alloc (.cells p.cells 42)) := (Below.refl _ _).alloc (Nat.le_refl _) _
  have dr0 : 0 ≤ r := by omega
  have dr : decide (r < 4) = false := by simp; omega
  have dg0 : 0 ≤ g := by omega
  have dg : decide (g < 4) = false := by simp; omega
  have e1 : worthV p a r g = 0 ∧ worthE p a r g = 10 := by simp [worthV, worthE, hok]
  have e2 : feeV p a r = 0 ∧ feeE p a r = 10 := by simp [feeV, feeE, hok]
  have e3 : toV p g = 0 ∧ toE p g = 10 := by simp [toV, toE, hok]
  rw [e1.1, e1.2] at W1
  rw [e2.1, e2.2] at W2
  rw [e3.1, e3.2] at W3
  rw [hok] at RP
  clear e1 e2 e3
  go_enter Try.func9, Try.ntmps9
  go_wp2_with fail
  refine (awake09 _).mono ?_
  rintro e w1 ⟨rfl, hb1⟩
  have Hat1 := Lib.hid (Hat.out.below hb1)
  go_wp2_with (refine wpList_load_row rfl 42 _ rfl w.heap.size rfl 42 p.cells (0, 0) _ Hat1.out Try.underlying42 rfl HI.out ?_)
  refine (W1.out _).mono ?_
  rintro e w2 ⟨rfl, hb2⟩
  have Hat2 := Lib.hid (Hat1.out.below hb2)
  go_wp2_with (refine wpList_load_row rfl 42 _ rfl w.heap.size rfl 42 p.cells (0, 0) _ Hat2.out Try.underlying42 rfl HI.out ?_)
  refine (W2.out _).mono ?_
  rintro e w3 ⟨rfl, hb3⟩
  have Hat3 := Lib.hid (Hat2.out.below hb3)
  go_wp2_with (refine wpList_load_row rfl 42 _ rfl w.heap.size rfl 42 p.cells (0, 0) _ Hat3.out Try.underlying42 rfl HI.out ?_)
  refine (W3.out _).mono ?_
  rintro e w4 ⟨rfl, hb4⟩
  have Hat4 := Lib.hid (Hat3.out.below hb4)
  go_wp2_with (refine wpList_load_row rfl 42 _ rfl w.heap.size rfl 42 p.cells (0, 0) _ Hat4.out Try.underlying42 rfl HI.out ?_)
  refine (RP.out _).mono ?_
  rintro e w5 ⟨rfl, hb5⟩
  have Hat5 := Lib.hid (Hat4.out.below hb5)
  have z1 := hb1.size
  have z2 := hb2.size
  have z3 := hb3.size
  have z4 := hb4.size
  simp at z1
  have hfin : Below w.heap.size w w5 := ((((hb0.trans (below_le hb1 (by simp))).trans (below_le hb2 (by omega))).trans (below_le hb3 (by omega))).trans (below_le hb4 (by omega))).trans (below_le hb5 (by omega))
  have z5 : w.heap.size ≤ w5.heap.size := hfin.size
  clear z1 z2 z3 z4 hb1 hb2 hb3 hb4 hb5
  go_wp2_with fail
  go_ret
  exact ⟨by simp, hfin⟩

set_option maxRecDepth 100000 in
set_option maxHeartbeats 1000000 in
theorem worth_hi_hi_lo (p : Pol) (a r g : Int) (w : World) (hok : p.ok = true) (hr : 4 ≤ r) (hg : 4 ≤ g) (ha : a < 0) : Calls Try.prog 9 #[.agg p.cells, .int .i64 a, .int .i64 r, .int .i64 g] w fun e w' => e = .returned (.bool true) ∧ Below w.heap.size w w' := by
  have Hat := Lib.hid (Pol.At.alloc p w)
  have HI := Lib.hid (pol_info p)
  have W1 := Lib.hid (worth_any p a r g)
  have W2 := Lib.hid (fee_any p a r)
  have W3 := Lib.hid (to_any p g)
  have RP := Lib.hid (ref_pol p)
  have hb0 : Below w.heap.size w (w.alloc (.cells p.cells 42)) := (Below.refl _ _).alloc (Nat.le_refl _) _
  have hm : monB a = false := by simp [monB]; omega
  have hr' : isK r = false := by simp [isK]; omega
  have hg' : isK g = false := by simp [isK]; omega
  have e1 : worthV p a r g = 0 ∧ worthE p a r g = 1 := by simp [worthV, worthE, hok, hr', hg']
  have e2 : feeV p a r = 0 ∧ feeE p a r = 1 := by simp [feeV, feeE, hok, hr']
  have e3 : toV p g = 0 ∧ toE p g = 1 := by simp [toV, toE, hok, hg']
  have dr0 : 0 ≤ r := by omega
  have dr : decide (r < 4) = false := by simp; omega
  have dg0 : 0 ≤ g := by omega
  have dg : decide (g < 4) = false := by simp; omega
  rw [e1.1, e1.2] at W1
  rw [e2.1, e2.2] at W2
  rw [e3.1, e3.2] at W3
  rw [hok] at RP
  clear e1 e2 e3 hm hr' hg' hok
  go_enter Try.func9, Try.ntmps9
  go_wp2_with fail
  refine (awake09 _).mono ?_
  rintro e w1 ⟨rfl, hb1⟩
  have Hat1 := Lib.hid (Hat.out.below hb1)
  go_wp2_with (refine wpList_load_row rfl 42 _ rfl w.heap.size rfl 42 p.cells (0, 0) _ Hat1.out Try.underlying42 rfl HI.out ?_)
  refine (W1.out _).mono ?_
  rintro e w2 ⟨rfl, hb2⟩
  have Hat2 := Lib.hid (Hat1.out.below hb2)
  go_wp2_with (refine wpList_load_row rfl 42 _ rfl w.heap.size rfl 42 p.cells (0, 0) _ Hat2.out Try.underlying42 rfl HI.out ?_)
  refine (W2.out _).mono ?_
  rintro e w3 ⟨rfl, hb3⟩
  have Hat3 := Lib.hid (Hat2.out.below hb3)
  go_wp2_with (refine wpList_load_row rfl 42 _ rfl w.heap.size rfl 42 p.cells (0, 0) _ Hat3.out Try.underlying42 rfl HI.out ?_)
  refine (W3.out _).mono ?_
  rintro e w4 ⟨rfl, hb4⟩
  have Hat4 := Lib.hid (Hat3.out.below hb4)
  go_wp2_with (refine wpList_load_row rfl 42 _ rfl w.heap.size rfl 42 p.cells (0, 0) _ Hat4.out Try.underlying42 rfl HI.out ?_)
  refine (RP.out _).mono ?_
  rintro e w5 ⟨rfl, hb5⟩
  have Hat5 := Lib.hid (Hat4.out.below hb5)
  have z1 := hb1.size
  have z2 := hb2.size
  have z3 := hb3.size
  have z4 := hb4.size
  simp at z1
  have hfin : Below w.heap.size w w5 := ((((hb0.trans (below_le hb1 (by simp))).trans (below_le hb2 (by omega))).trans (below_le hb3 (by omega))).trans (below_le hb4 (by omega))).trans (below_le hb5 (by omega))
  have z5 : w.heap.size ≤ w5.heap.size := hfin.size
  clear z1 z2 z3 z4 hb1 hb2 hb3 hb4 hb5
  go_wp2_with fail
  go_ret
  exact ⟨by simp, hfin⟩

set_option maxRecDepth 100000 in
set_option maxHeartbeats 1000000 in
theorem worth_hi_hi_hi (p : Pol) (a r g : Int) (w : World) (hok : p.ok = true) (hr : 4 ≤ r) (hg : 4 ≤ g) (ha : 1125899906842624 < a) : Calls Try.prog 9 #[.agg p.cells, .int .i64 a, .int .i64 r, .int .i64 g] w fun e w' => e = .returned (.bool true) ∧ Below w.heap.size w w' := by
  have Hat := Lib.hid (Pol.At.alloc p w)
  have HI := Lib.hid (pol_info p)
  have W1 := Lib.hid (worth_any p a r g)
  have W2 := Lib.hid (fee_any p a r)
  have W3 := Lib.hid (to_any p g)
  have RP := Lib.hid (ref_pol p)
  have hb0 : Below w.heap.size w (w.alloc (.cells p.cells 42)) := (Below.refl _ _).alloc (Nat.le_refl _) _
  have hm : monB a = false := by simp [monB]; omega
  have da : decide (a < 0) = false := by simp; omega
  have hr' : isK r = false := by simp [isK]; omega
  have hg' : isK g = false := by simp [isK]; omega
  have e1 : worthV p a r g = 0 ∧ worthE p a r g = 1 := by simp [worthV, worthE, hok, hr', hg']
  have e2 : feeV p a r = 0 ∧ feeE p a r = 1 := by simp [feeV, feeE, hok, hr']
  have e3 : toV p g = 0 ∧ toE p g = 1 := by simp [toV, toE, hok, hg']
  have dr0 : 0 ≤ r := by omega
  have dr : decide (r < 4) = false := by simp; omega
  have dg0 : 0 ≤ g := by omega
  have dg : decide (g < 4) = false := by simp; omega
  rw [e1.1, e1.2] at W1
  rw [e2.1, e2.2] at W2
  rw [e3.1, e3.2] at W3
  rw [hok] at RP
  clear e1 e2 e3 hm hr' hg' hok
  go_enter Try.func9, Try.ntmps9
  go_wp2_with fail
  refine (awake09 _).mono ?_
  rintro e w1 ⟨rfl, hb1⟩
  have Hat1 := Lib.hid (Hat.out.below hb1)
  go_wp2_with (refine wpList_load_row rfl 42 _ rfl w.heap.size rfl 42 p.cells (0, 0) _ Hat1.out Try.underlying42 rfl HI.out ?_)
  refine (W1.out _).mono ?_
  rintro e w2 ⟨rfl, hb2⟩
  have Hat2 := Lib.hid (Hat1.out.below hb2)
  go_wp2_with (refine wpList_load_row rfl 42 _ rfl w.heap.size rfl 42 p.cells (0, 0) _ Hat2.out Try.underlying42 rfl HI.out ?_)
  refine (W2.out _).mono ?_
  rintro e w3 ⟨rfl, hb3⟩
  have Hat3 := Lib.hid (Hat2.out.below hb3)
  go_wp2_with (refine wpList_load_row rfl 42 _ rfl w.heap.size rfl 42 p.cells (0, 0) _ Hat3.out Try.underlying42 rfl HI.out ?_)
  refine (W3.out _).mono ?_
  rintro e w4 ⟨rfl, hb4⟩
  have Hat4 := Lib.hid (Hat3.out.below hb4)
  go_wp2_with (refine wpList_load_row rfl 42 _ rfl w.heap.size rfl 42 p.cells (0, 0) _ Hat4.out Try.underlying42 rfl HI.out ?_)
  refine (RP.out _).mono ?_
  rintro e w5 ⟨rfl, hb5⟩
  have Hat5 := Lib.hid (Hat4.out.below hb5)
  have z1 := hb1.size
  have z2 := hb2.size
  have z3 := hb3.size
  have z4 := hb4.size
  simp at z1
  have hfin : Below w.heap.size w w5 := ((((hb0.trans (below_le hb1 (by simp))).trans (below_le hb2 (by omega))).trans (below_le hb3 (by omega))).trans (below_le hb4 (by omega))).trans (below_le hb5 (by omega))
  have z5 : w.heap.size ≤ w5.heap.size := hfin.size
  clear z1 z2 z3 z4 hb1 hb2 hb3 hb4 hb5
  go_wp2_with fail
  go_ret
  exact ⟨by simp, hfin⟩

set_option maxRecDepth 100000 in
set_option maxHeartbeats 1000000 in
theorem worth_hi_hi_ok (p : Pol) (a r g : Int) (w : World) (hok : p.ok = true) (hr : 4 ≤ r) (hg : 4 ≤ g) (hm : monB a = true) : Calls Try.prog 9 #[.agg p.cells, .int .i64 a, .int .i64 r, .int .i64 g] w fun e w' => e = .returned (.bool true) ∧ Below w.heap.size w w' := by
  have Hat := Lib.hid (Pol.At.alloc p w)
  have HI := Lib.hid (pol_info p)
  have W1 := Lib.hid (worth_any p a r g)
  have W2 := Lib.hid (fee_any p a r)
  have W3 := Lib.hid (to_any p g)
  have RP := Lib.hid (ref_pol p)
  have hb0 : Below w.heap.size w (w.alloc (.cells p.cells 42)) := (Below.refl _ _).alloc (Nat.le_refl _) _
  obtain ⟨ha0, ha1⟩ := monB_iff.1 hm
  have da : decide (a < 0) = false := by simp; omega
  have hr' : isK r = false := by simp [isK]; omega
  have hg' : isK g = false := by simp [isK]; omega
  have e1 : worthV p a r g = 0 ∧ worthE p a r g = 1 := by simp [worthV, worthE, hok, hr', hg']
  have e2 : feeV p a r = 0 ∧ feeE p a r = 1 := by simp [feeV, feeE, hok, hr']
  have e3 : toV p g = 0 ∧ toE p g = 1 := by simp [toV, toE, hok, hg']
  have dr0 : 0 ≤ r := by omega
  have dr : decide (r < 4) = false := by simp; omega
  have dg0 : 0 ≤ g := by omega
  have dg : decide (g < 4) = false := by simp; omega
  rw [e1.1, e1.2] at W1
  rw [e2.1, e2.2] at W2
  rw [e3.1, e3.2] at W3
  rw [hok] at RP
  clear e1 e2 e3 hm hr' hg' hok
  go_enter Try.func9, Try.ntmps9
  go_wp2_with fail
  refine (awake09 _).mono ?_
  rintro e w1 ⟨rfl, hb1⟩
  have Hat1 := Lib.hid (Hat.out.below hb1)
  go_wp2_with (refine wpList_load_row rfl 42 _ rfl w.heap.size rfl 42 p.cells (0, 0) _ Hat1.out Try.underlying42 rfl HI.out ?_)
  refine (W1.out _).mono ?_
  rintro e w2 ⟨rfl, hb2⟩
  have Hat2 := Lib.hid (Hat1.out.below hb2)
  go_wp2_with (refine wpList_load_row rfl 42 _ rfl w.heap.size rfl 42 p.cells (0, 0) _ Hat2.out Try.underlying42 rfl HI.out ?_)
  refine (W2.out _).mono ?_
  rintro e w3 ⟨rfl, hb3⟩
  have Hat3 := Lib.hid (Hat2.out.below hb3)
  go_wp2_with (refine wpList_load_row rfl 42 _ rfl w.heap.size rfl 42 p.cells (0, 0) _ Hat3.out Try.underlying42 rfl HI.out ?_)
  refine (W3.out _).mono ?_
  rintro e w4 ⟨rfl, hb4⟩
  have Hat4 := Lib.hid (Hat3.out.below hb4)
  go_wp2_with (refine wpList_load_row rfl 42 _ rfl w.heap.size rfl 42 p.cells (0, 0) _ Hat4.out Try.underlying42 rfl HI.out ?_)
  refine (RP.out _).mono ?_
  rintro e w5 ⟨rfl, hb5⟩
  have Hat5 := Lib.hid (Hat4.out.below hb5)
  have z1 := hb1.size
  have z2 := hb2.size
  have z3 := hb3.size
  have z4 := hb4.size
  simp at z1
  have hfin : Below w.heap.size w w5 := ((((hb0.trans (below_le hb1 (by simp))).trans (below_le hb2 (by omega))).trans (below_le hb3 (by omega))).trans (below_le hb4 (by omega))).trans (below_le hb5 (by omega))
  have z5 : w.heap.size ≤ w5.heap.size := hfin.size
  clear z1 z2 z3 z4 hb1 hb2 hb3 hb4 hb5
  go_wp2_with fail
  go_ret
  exact ⟨by simp, hfin⟩

set_option maxRecDepth 100000 in
set_option maxHeartbeats 1000000 in
theorem worth0_hi_in (p : Pol) (a r g : Int) (w : World) (hok : p.ok = false) (hr : 4 ≤ r) (hg : isK g = true) : Calls Try.prog 9 #[.agg p.cells, .int .i64 a, .int .i64 r, .int .i64 g] w fun e w' => e = .returned (.bool true) ∧ Below w.heap.size w w' := by
  have Hat := Lib.hid (Pol.At.alloc p w)
  have HI := Lib.hid (pol_info p)
  have W1 := Lib.hid (worth_any p a r g)
  have W2 := Lib.hid (fee_any p a r)
  have W3 := Lib.hid (to_any p g)
  have RP := Lib.hid (ref_pol p)
  have hb0 : Below w.heap.size w (w.alloc (.cells p.cells 42)) := (Below.refl _ _).alloc (Nat.le_refl _) _
  obtain ⟨g0, g4⟩ := isK_iff.1 hg
  have dr0 : 0 ≤ r := by omega
  have dr : decide (r < 4) = false := by simp; omega
  have e1 : worthV p a r g = 0 ∧ worthE p a r g = 10 := by simp [worthV, worthE, hok]
  have e2 : feeV p a r = 0 ∧ feeE p a r = 10 := by simp [feeV, feeE, hok]
  have e3 : toV p g = 0 ∧ toE p g = 10 := by simp [toV, toE, hok]
  rw [e1.1, e1.2] at W1
  rw [e2.1, e2.2] at W2
  rw [e3.1, e3.2] at W3
  rw [hok] at RP
  clear e1 e2 e3
  go_enter Try.func9, Try.ntmps9
  go_wp2_with fail
  refine (awake09 _).mono ?_
  rintro e w1 ⟨rfl, hb1⟩
  have Hat1 := Lib.hid (Hat.out.below hb1)
  go_wp2_with (refine wpList_load_row rfl 42 _ rfl w.heap.size rfl 42 p.cells (0, 0) _ Hat1.out Try.underlying42 rfl HI.out ?_)
  refine (W1.out _).mono ?_
  rintro e w2 ⟨rfl, hb2⟩
  have Hat2 := Lib.hid (Hat1.out.below hb2)
  go_wp2_with (refine wpList_load_row rfl 42 _ rfl w.heap.size rfl 42 p.cells (0, 0) _ Hat2.out Try.underlying42 rfl HI.out ?_)
  refine (W2.out _).mono ?_
  rintro e w3 ⟨rfl, hb3⟩
  have Hat3 := Lib.hid (Hat2.out.below hb3)
  go_wp2_with (refine wpList_load_row rfl 42 _ rfl w.heap.size rfl 42 p.cells (0, 0) _ Hat3.out Try.underlying42 rfl HI.out ?_)
  refine (W3.out _).mono ?_
  rintro e w4 ⟨rfl, hb4⟩
  have Hat4 := Lib.hid (Hat3.out.below hb4)
  go_wp2_with (refine wpList_load_row rfl 42 _ rfl w.heap.size rfl 42 p.cells (0, 0) _ Hat4.out Try.underlying42 rfl HI.out ?_)
  refine (RP.out _).mono ?_
  rintro e w5 ⟨rfl, hb5⟩
  have Hat5 := Lib.hid (Hat4.out.below hb5)
  have z1 := hb1.size
  have z2 := hb2.size
  have z3 := hb3.size
  have z4 := hb4.size
  simp at z1
  have hfin : Below w.heap.size w w5 := ((((hb0.trans (below_le hb1 (by simp))).trans (below_le hb2 (by omega))).trans (below_le hb3 (by omega))).trans (below_le hb4 (by omega))).trans (below_le hb5 (by omega))
  have z5 : w.heap.size ≤ w5.heap.size := hfin.size
  clear z1 z2 z3 z4 hb1 hb2 hb3 hb4 hb5
  go_wp2_with fail
  go_ret
  exact ⟨by simp, hfin⟩

set_option maxRecDepth 100000 in
set_option maxHeartbeats 1000000 in
theorem worth_hi_in_lo (p : Pol) (a r g : Int) (w : World) (hok : p.ok = true) (hr : 4 ≤ r) (hg : isK g = true) (ha : a < 0) : Calls Try.prog 9 #[.agg p.cells, .int .i64 a, .int .i64 r, .int .i64 g] w fun e w' => e = .returned (.bool true) ∧ Below w.heap.size w w' := by
  have Hat := Lib.hid (Pol.At.alloc p w)
  have HI := Lib.hid (pol_info p)
  have W1 := Lib.hid (worth_any p a r g)
  have W2 := Lib.hid (fee_any p a r)
  have W3 := Lib.hid (to_any p g)
  have RP := Lib.hid (ref_pol p)
  have hb0 : Below w.heap.size w (w.alloc (.cells p.cells 42)) := (Below.refl _ _).alloc (Nat.le_refl _) _
  have hm : monB a = false := by simp [monB]; omega
  have hr' : isK r = false := by simp [isK]; omega
  obtain ⟨g0, g4⟩ := isK_iff.1 hg
  have CT : Hid (∀ w2, p.At w2 w.heap.size → w2.cell? ⟨w.heap.size, 8 + g.toNat * 2 + 1, none⟩ = some (.int .i64 (p.T g.toNat))) := Lib.hid (fun w2 h => h.to g.toNat (by omega))
  have e1 : worthV p a r g = 0 ∧ worthE p a r g = 1 := by simp [worthV, worthE, hok, hr', hg]
  have e2 : feeV p a r = 0 ∧ feeE p a r = 1 := by simp [feeV, feeE, hok, hr']
  have e3 : toV p g = p.T g.toNat ∧ toE p g = 0 := by simp [toV, toE, hok, hg]
  have dr0 : 0 ≤ r := by omega
  have dr : decide (r < 4) = false := by simp; omega
  rw [e1.1, e1.2] at W1
  rw [e2.1, e2.2] at W2
  rw [e3.1, e3.2] at W3
  rw [hok] at RP
  clear e1 e2 e3 hm hr' hg hok
  generalize p.T g.toNat = tt at *
  go_enter Try.func9, Try.ntmps9
  go_wp2_with fail
  refine (awake09 _).mono ?_
  rintro e w1 ⟨rfl, hb1⟩
  have Hat1 := Lib.hid (Hat.out.below hb1)
  go_wp2_with (refine wpList_load_row rfl 42 _ rfl w.heap.size rfl 42 p.cells (0, 0) _ Hat1.out Try.underlying42 rfl HI.out ?_)
  refine (W1.out _).mono ?_
  rintro e w2 ⟨rfl, hb2⟩
  have Hat2 := Lib.hid (Hat1.out.below hb2)
  go_wp2_with (refine wpList_load_row rfl 42 _ rfl w.heap.size rfl 42 p.cells (0, 0) _ Hat2.out Try.underlying42 rfl HI.out ?_)
  refine (W2.out _).mono ?_
  rintro e w3 ⟨rfl, hb3⟩
  have Hat3 := Lib.hid (Hat2.out.below hb3)
  go_wp2_with (refine wpList_load_row rfl 42 _ rfl w.heap.size rfl 42 p.cells (0, 0) _ Hat3.out Try.underlying42 rfl HI.out ?_)
  refine (W3.out _).mono ?_
  rintro e w4 ⟨rfl, hb4⟩
  have Hat4 := Lib.hid (Hat3.out.below hb4)
  go_wp2_with (refine wpList_load_row rfl 42 _ rfl w.heap.size rfl 42 p.cells (0, 0) _ Hat4.out Try.underlying42 rfl HI.out ?_)
  refine (RP.out _).mono ?_
  rintro e w5 ⟨rfl, hb5⟩
  have Hat5 := Lib.hid (Hat4.out.below hb5)
  have z1 := hb1.size
  have z2 := hb2.size
  have z3 := hb3.size
  have z4 := hb4.size
  simp at z1
  have hfin : Below w.heap.size w w5 := ((((hb0.trans (below_le hb1 (by simp))).trans (below_le hb2 (by omega))).trans (below_le hb3 (by omega))).trans (below_le hb4 (by omega))).trans (below_le hb5 (by omega))
  have z5 : w.heap.size ≤ w5.heap.size := hfin.size
  clear z1 z2 z3 z4 hb1 hb2 hb3 hb4 hb5
  have ct := CT.out _ Hat5.out
  go_wp2_with fail
  go_ret
  exact ⟨by simp, hfin⟩

set_option maxRecDepth 100000 in
set_option maxHeartbeats 1000000 in
theorem worth_hi_in_hi (p : Pol) (a r g : Int) (w : World) (hok : p.ok = true) (hr : 4 ≤ r) (hg : isK g = true) (ha : 1125899906842624 < a) : Calls Try.prog 9 #[.agg p.cells, .int .i64 a, .int .i64 r, .int .i64 g] w fun e w' => e = .returned (.bool true) ∧ Below w.heap.size w w' := by
  have Hat := Lib.hid (Pol.At.alloc p w)
  have HI := Lib.hid (pol_info p)
  have W1 := Lib.hid (worth_any p a r g)
  have W2 := Lib.hid (fee_any p a r)
  have W3 := Lib.hid (to_any p g)
  have RP := Lib.hid (ref_pol p)
  have hb0 : Below w.heap.size w (w.alloc (.cells p.cells 42)) := (Below.refl _ _).alloc (Nat.le_refl _) _
  have hm : monB a = false := by simp [monB]; omega
  have da : decide (a < 0) = false := by simp; omega
  have hr' : isK r = false := by simp [isK]; omega
  obtain ⟨g0, g4⟩ := isK_iff.1 hg
  have CT : Hid (∀ w2, p.At w2 w.heap.size → w2.cell? ⟨w.heap.size, 8 + g.toNat * 2 + 1, none⟩ = some (.int .i64 (p.T g.toNat))) := Lib.hid (fun w2 h => h.to g.toNat (by omega))
  have e1 : worthV p a r g = 0 ∧ worthE p a r g = 1 := by simp [worthV, worthE, hok, hr', hg]
  have e2 : feeV p a r = 0 ∧ feeE p a r = 1 := by simp [feeV, feeE, hok, hr']
  have e3 : toV p g = p.T g.toNat ∧ toE p g = 0 := by simp [toV, toE, hok, hg]
  have dr0 : 0 ≤ r := by omega
  have dr : decide (r < 4) = false := by simp; omega
  rw [e1.1, e1.2] at W1
  rw [e2.1, e2.2] at W2
  rw [e3.1, e3.2] at W3
  rw [hok] at RP
  clear e1 e2 e3 hm hr' hg hok
  generalize p.T g.toNat = tt at *
  go_enter Try.func9, Try.ntmps9
  go_wp2_with fail
  refine (awake09 _).mono ?_
  rintro e w1 ⟨rfl, hb1⟩
  have Hat1 := Lib.hid (Hat.out.below hb1)
  go_wp2_with (refine wpList_load_row rfl 42 _ rfl w.heap.size rfl 42 p.cells (0, 0) _ Hat1.out Try.underlying42 rfl HI.out ?_)
  refine (W1.out _).mono ?_
  rintro e w2 ⟨rfl, hb2⟩
  have Hat2 := Lib.hid (Hat1.out.below hb2)
  go_wp2_with (refine wpList_load_row rfl 42 _ rfl w.heap.size rfl 42 p.cells (0, 0) _ Hat2.out Try.underlying42 rfl HI.out ?_)
  refine (W2.out _).mono ?_
  rintro e w3 ⟨rfl, hb3⟩
  have Hat3 := Lib.hid (Hat2.out.below hb3)
  go_wp2_with (refine wpList_load_row rfl 42 _ rfl w.heap.size rfl 42 p.cells (0, 0) _ Hat3.out Try.underlying42 rfl HI.out ?_)
  refine (W3.out _).mono ?_
  rintro e w4 ⟨rfl, hb4⟩
  have Hat4 := Lib.hid (Hat3.out.below hb4)
  go_wp2_with (refine wpList_load_row rfl 42 _ rfl w.heap.size rfl 42 p.cells (0, 0) _ Hat4.out Try.underlying42 rfl HI.out ?_)
  refine (RP.out _).mono ?_
  rintro e w5 ⟨rfl, hb5⟩
  have Hat5 := Lib.hid (Hat4.out.below hb5)
  have z1 := hb1.size
  have z2 := hb2.size
  have z3 := hb3.size
  have z4 := hb4.size
  simp at z1
  have hfin : Below w.heap.size w w5 := ((((hb0.trans (below_le hb1 (by simp))).trans (below_le hb2 (by omega))).trans (below_le hb3 (by omega))).trans (below_le hb4 (by omega))).trans (below_le hb5 (by omega))
  have z5 : w.heap.size ≤ w5.heap.size := hfin.size
  clear z1 z2 z3 z4 hb1 hb2 hb3 hb4 hb5
  have ct := CT.out _ Hat5.out
  go_wp2_with fail
  go_ret
  exact ⟨by simp, hfin⟩

set_option maxRecDepth 100000 in
set_option maxHeartbeats 1000000 in
theorem worth_hi_in_ok (p : Pol) (a r g : Int) (w : World) (hok : p.ok = true) (hr : 4 ≤ r) (hg : isK g = true) (hm : monB a = true) : Calls Try.prog 9 #[.agg p.cells, .int .i64 a, .int .i64 r, .int .i64 g] w fun e w' => e = .returned (.bool true) ∧ Below w.heap.size w w' := by
  have Hat := Lib.hid (Pol.At.alloc p w)
  have HI := Lib.hid (pol_info p)
  have W1 := Lib.hid (worth_any p a r g)
  have W2 := Lib.hid (fee_any p a r)
  have W3 := Lib.hid (to_any p g)
  have RP := Lib.hid (ref_pol p)
  have hb0 : Below w.heap.size w (w.alloc (.cells p.cells 42)) := (Below.refl _ _).alloc (Nat.le_refl _) _
  obtain ⟨ha0, ha1⟩ := monB_iff.1 hm
  have da : decide (a < 0) = false := by simp; omega
  have hr' : isK r = false := by simp [isK]; omega
  obtain ⟨g0, g4⟩ := isK_iff.1 hg
  have CT : Hid (∀ w2, p.At w2 w.heap.size → w2.cell? ⟨w.heap.size, 8 + g.toNat * 2 + 1, none⟩ = some (.int .i64 (p.T g.toNat))) := Lib.hid (fun w2 h => h.to g.toNat (by omega))
  have e1 : worthV p a r g = 0 ∧ worthE p a r g = 1 := by simp [worthV, worthE, hok, hr', hg]
  have e2 : feeV p a r = 0 ∧ feeE p a r = 1 := by simp [feeV, feeE, hok, hr']
  have e3 : toV p g = p.T g.toNat ∧ toE p g = 0 := by simp [toV, toE, hok, hg]
  have dr0 : 0 ≤ r := by omega
  have dr : decide (r < 4) = false := by simp; omega
  rw [e1.1, e1.2] at W1
  rw [e2.1, e2.2] at W2
  rw [e3.1, e3.2] at W3
  rw [hok] at RP
  clear e1 e2 e3 hm hr' hg hok
  generalize p.T g.toNat = tt at *
  go_enter Try.func9, Try.ntmps9
  go_wp2_with fail
  refine (awake09 _).mono ?_
  rintro e w1 ⟨rfl, hb1⟩
  have Hat1 := Lib.hid (Hat.out.below hb1)
  go_wp2_with (refine wpList_load_row rfl 42 _ rfl w.heap.size rfl 42 p.cells (0, 0) _ Hat1.out Try.underlying42 rfl HI.out ?_)
  refine (W1.out _).mono ?_
  rintro e w2 ⟨rfl, hb2⟩
  have Hat2 := Lib.hid (Hat1.out.below hb2)
  go_wp2_with (refine wpList_load_row rfl 42 _ rfl w.heap.size rfl 42 p.cells (0, 0) _ Hat2.out Try.underlying42 rfl HI.out ?_)
  refine (W2.out _).mono ?_
  rintro e w3 ⟨rfl, hb3⟩
  have Hat3 := Lib.hid (Hat2.out.below hb3)
  go_wp2_with (refine wpList_load_row rfl 42 _ rfl w.heap.size rfl 42 p.cells (0, 0) _ Hat3.out Try.underlying42 rfl HI.out ?_)
  refine (W3.out _).mono ?_
  rintro e w4 ⟨rfl, hb4⟩
  have Hat4 := Lib.hid (Hat3.out.below hb4)
  go_wp2_with (refine wpList_load_row rfl 42 _ rfl w.heap.size rfl 42 p.cells (0, 0) _ Hat4.out Try.underlying42 rfl HI.out ?_)
  refine (RP.out _).mono ?_
  rintro e w5 ⟨rfl, hb5⟩
  have Hat5 := Lib.hid (Hat4.out.below hb5)
  have z1 := hb1.size
  have z2 := hb2.size
  have z3 := hb3.size
  have z4 := hb4.size
  simp at z1
  have hfin : Below w.heap.size w w5 := ((((hb0.trans (below_le hb1 (by simp))).trans (below_le hb2 (by omega))).trans (below_le hb3 (by omega))).trans (below_le hb4 (by omega))).trans (below_le hb5 (by omega))
  have z5 : w.heap.size ≤ w5.heap.size := hfin.size
  clear z1 z2 z3 z4 hb1 hb2 hb3 hb4 hb5
  have ct := CT.out _ Hat5.out
  go_wp2_with fail
  go_ret
  exact ⟨by simp, hfin⟩

set_option maxRecDepth 100000 in
set_option maxHeartbeats 1000000 in
theorem worth0_in_lo (p : Pol) (a r g : Int) (w : World) (hok : p.ok = false) (hr : isK r = true) (hg : g < 0) : Calls Try.prog 9 #[.agg p.cells, .int .i64 a, .int .i64 r, .int .i64 g] w fun e w' => e = .returned (.bool true) ∧ Below w.heap.size w w' := by
  have Hat := Lib.hid (Pol.At.alloc p w)
  have HI := Lib.hid (pol_info p)
  have W1 := Lib.hid (worth_any p a r g)
  have W2 := Lib.hid (fee_any p a r)
  have W3 := Lib.hid (to_any p g)
  have RP := Lib.hid (ref_pol p)
  have hb0 : Below w.heap.size w (w.alloc (.cells p.cells 42)) := (Below.refl _ _).alloc (Nat.le_refl _) _
  obtain ⟨r0, r4⟩ := isK_iff.1 hr
  have dg : decide (0 ≤ g) = false := by simp; omega
  have e1 : worthV p a r g = 0 ∧ worthE p a r g = 10 := by simp [worthV, worthE, hok]
  have e2 : feeV p a r = 0 ∧ feeE p a r = 10 := by simp [feeV, feeE, hok]
  have e3 : toV p g = 0 ∧ toE p g = 10 := by simp [toV, toE, hok]
  rw [e1.1, e1.2] at W1
  rw [e2.1, e2.2] at W2
  rw [e3.1, e3.2] at W3
  rw [hok] at RP
  clear e1 e2 e3
  go_enter Try.func9, Try.ntmps9
  go_wp2_with fail
  refine (awake09 _).mono ?_
  rintro e w1 ⟨rfl, hb1⟩
  have Hat1 := Lib.hid (Hat.out.below hb1)
  go_wp2_with (refine wpList_load_row rfl 42 _ rfl w.heap.size rfl 42 p.cells (0, 0) _ Hat1.out Try.underlying42 rfl HI.out ?_)
  refine (W1.out _).mono ?_
  rintro e w2 ⟨rfl, hb2⟩
  have Hat2 := Lib.hid (Hat1.out.below hb2)
  go_wp2_with (refine wpList_load_row rfl 42 _ rfl w.heap.size rfl 42 p.cells (0, 0) _ Hat2.out Try.underlying42 rfl HI.out ?_)
  refine (W2.out _).mono ?_
  rintro e w3 ⟨rfl, hb3⟩
  have Hat3 := Lib.hid (Hat2.out.below hb3)
  go_wp2_with (refine wpList_load_row rfl 42 _ rfl w.heap.size rfl 42 p.cells (0, 0) _ Hat3.out Try.underlying42 rfl HI.out ?_)
  refine (W3.out _).mono ?_
  rintro e w4 ⟨rfl, hb4⟩
  have Hat4 := Lib.hid (Hat3.out.below hb4)
  go_wp2_with (refine wpList_load_row rfl 42 _ rfl w.heap.size rfl 42 p.cells (0, 0) _ Hat4.out Try.underlying42 rfl HI.out ?_)
  refine (RP.out _).mono ?_
  rintro e w5 ⟨rfl, hb5⟩
  have Hat5 := Lib.hid (Hat4.out.below hb5)
  have z1 := hb1.size
  have z2 := hb2.size
  have z3 := hb3.size
  have z4 := hb4.size
  simp at z1
  have hfin : Below w.heap.size w w5 := ((((hb0.trans (below_le hb1 (by simp))).trans (below_le hb2 (by omega))).trans (below_le hb3 (by omega))).trans (below_le hb4 (by omega))).trans (below_le hb5 (by omega))
  have z5 : w.heap.size ≤ w5.heap.size := hfin.size
  clear z1 z2 z3 z4 hb1 hb2 hb3 hb4 hb5
  go_wp2_with fail
  go_ret
  exact ⟨by simp, hfin⟩

set_option maxRecDepth 100000 in
set_option maxHeartbeats 1000000 in
theorem worth_in_lo_lo (p : Pol) (a r g : Int) (w : World) (hok : p.ok = true) (hr : isK r = true) (hg : g < 0) (ha : a < 0) : Calls Try.prog 9 #[.agg p.cells, .int .i64 a, .int .i64 r, .int .i64 g] w fun e w' => e = .returned (.bool true) ∧ Below w.heap.size w w' := by
  have Hat := Lib.hid (Pol.At.alloc p w)
  have HI := Lib.hid (pol_info p)
  have W1 := Lib.hid (worth_any p a r g)
  have W2 := Lib.hid (fee_any p a r)
  have W3 := Lib.hid (to_any p g)
  have RP := Lib.hid (ref_pol p)
  have hb0 : Below w.heap.size w (w.alloc (.cells p.cells 42)) := (Below.refl _ _).alloc (Nat.le_refl _) _
  have hm : monB a = false := by simp [monB]; omega
  obtain ⟨r0, r4⟩ := isK_iff.1 hr
  have kr := (Pol.ok_at hok r.toNat (by omega)).1
  have CF : Hid (∀ w2, p.At w2 w.heap.size → w2.cell? ⟨w.heap.size, 4 + r.toNat, none⟩ = some (.int .i64 (p.F r.toNat))) := Lib.hid (fun w2 h => h.fee r.toNat (by omega))
  have hg' : isK g = false := by simp [isK]; omega
  have e1 : worthV p a r g = 0 ∧ worthE p a r g = 1 := by simp [worthV, worthE, hok, hr, hg']
  have e2 : feeV p a r = 0 ∧ feeE p a r = 9 := by simp [feeV, feeE, hok, hr, partV, partE, hm]
  have e3 : toV p g = 0 ∧ toE p g = 1 := by simp [toV, toE, hok, hg']
  have dg : decide (0 ≤ g) = false := by simp; omega
  rw [e1.1, e1.2] at W1
  rw [e2.1, e2.2] at W2
  rw [e3.1, e3.2] at W3
  rw [hok] at RP
  clear e1 e2 e3 hm hr hg' hok kr
  generalize p.F r.toNat = f at *
  go_enter Try.func9, Try.ntmps9
  go_wp2_with fail
  refine (awake09 _).mono ?_
  rintro e w1 ⟨rfl, hb1⟩
  have Hat1 := Lib.hid (Hat.out.below hb1)
  go_wp2_with (refine wpList_load_row rfl 42 _ rfl w.heap.size rfl 42 p.cells (0, 0) _ Hat1.out Try.underlying42 rfl HI.out ?_)
  refine (W1.out _).mono ?_
  rintro e w2 ⟨rfl, hb2⟩
  have Hat2 := Lib.hid (Hat1.out.below hb2)
  go_wp2_with (refine wpList_load_row rfl 42 _ rfl w.heap.size rfl 42 p.cells (0, 0) _ Hat2.out Try.underlying42 rfl HI.out ?_)
  refine (W2.out _).mono ?_
  rintro e w3 ⟨rfl, hb3⟩
  have Hat3 := Lib.hid (Hat2.out.below hb3)
  go_wp2_with (refine wpList_load_row rfl 42 _ rfl w.heap.size rfl 42 p.cells (0, 0) _ Hat3.out Try.underlying42 rfl HI.out ?_)
  refine (W3.out _).mono ?_
  rintro e w4 ⟨rfl, hb4⟩
  have Hat4 := Lib.hid (Hat3.out.below hb4)
  go_wp2_with (refine wpList_load_row rfl 42 _ rfl w.heap.size rfl 42 p.cells (0, 0) _ Hat4.out Try.underlying42 rfl HI.out ?_)
  refine (RP.out _).mono ?_
  rintro e w5 ⟨rfl, hb5⟩
  have Hat5 := Lib.hid (Hat4.out.below hb5)
  have z1 := hb1.size
  have z2 := hb2.size
  have z3 := hb3.size
  have z4 := hb4.size
  simp at z1
  have hfin : Below w.heap.size w w5 := ((((hb0.trans (below_le hb1 (by simp))).trans (below_le hb2 (by omega))).trans (below_le hb3 (by omega))).trans (below_le hb4 (by omega))).trans (below_le hb5 (by omega))
  have z5 : w.heap.size ≤ w5.heap.size := hfin.size
  clear z1 z2 z3 z4 hb1 hb2 hb3 hb4 hb5
  have cf := CF.out _ Hat5.out
  go_wp2_with fail
  go_ret
  exact ⟨by simp, hfin⟩

set_option maxRecDepth 100000 in
set_option maxHeartbeats 1000000 in
theorem worth_in_lo_hi (p : Pol) (a r g : Int) (w : World) (hok : p.ok = true) (hr : isK r = true) (hg : g < 0) (ha : 1125899906842624 < a) : Calls Try.prog 9 #[.agg p.cells, .int .i64 a, .int .i64 r, .int .i64 g] w fun e w' => e = .returned (.bool true) ∧ Below w.heap.size w w' := by
  have Hat := Lib.hid (Pol.At.alloc p w)
  have HI := Lib.hid (pol_info p)
  have W1 := Lib.hid (worth_any p a r g)
  have W2 := Lib.hid (fee_any p a r)
  have W3 := Lib.hid (to_any p g)
  have RP := Lib.hid (ref_pol p)
  have hb0 : Below w.heap.size w (w.alloc (.cells p.cells 42)) := (Below.refl _ _).alloc (Nat.le_refl _) _
  have hm : monB a = false := by simp [monB]; omega
  have da : decide (a < 0) = false := by simp; omega
  obtain ⟨r0, r4⟩ := isK_iff.1 hr
  have kr := (Pol.ok_at hok r.toNat (by omega)).1
  have CF : Hid (∀ w2, p.At w2 w.heap.size → w2.cell? ⟨w.heap.size, 4 + r.toNat, none⟩ = some (.int .i64 (p.F r.toNat))) := Lib.hid (fun w2 h => h.fee r.toNat (by omega))
  have hg' : isK g = false := by simp [isK]; omega
  have e1 : worthV p a r g = 0 ∧ worthE p a r g = 1 := by simp [worthV, worthE, hok, hr, hg']
  have e2 : feeV p a r = 0 ∧ feeE p a r = 9 := by simp [feeV, feeE, hok, hr, partV, partE, hm]
  have e3 : toV p g = 0 ∧ toE p g = 1 := by simp [toV, toE, hok, hg']
  have dg : decide (0 ≤ g) = false := by simp; omega
  rw [e1.1, e1.2] at W1
  rw [e2.1, e2.2] at W2
  rw [e3.1, e3.2] at W3
  rw [hok] at RP
  clear e1 e2 e3 hm hr hg' hok kr
  generalize p.F r.toNat = f at *
  go_enter Try.func9, Try.ntmps9
  go_wp2_with fail
  refine (awake09 _).mono ?_
  rintro e w1 ⟨rfl, hb1⟩
  have Hat1 := Lib.hid (Hat.out.below hb1)
  go_wp2_with (refine wpList_load_row rfl 42 _ rfl w.heap.size rfl 42 p.cells (0, 0) _ Hat1.out Try.underlying42 rfl HI.out ?_)
  refine (W1.out _).mono ?_
  rintro e w2 ⟨rfl, hb2⟩
  have Hat2 := Lib.hid (Hat1.out.below hb2)
  go_wp2_with (refine wpList_load_row rfl 42 _ rfl w.heap.size rfl 42 p.cells (0, 0) _ Hat2.out Try.underlying42 rfl HI.out ?_)
  refine (W2.out _).mono ?_
  rintro e w3 ⟨rfl, hb3⟩
  have Hat3 := Lib.hid (Hat2.out.below hb3)
  go_wp2_with (refine wpList_load_row rfl 42 _ rfl w.heap.size rfl 42 p.cells (0, 0) _ Hat3.out Try.underlying42 rfl HI.out ?_)
  refine (W3.out _).mono ?_
  rintro e w4 ⟨rfl, hb4⟩
  have Hat4 := Lib.hid (Hat3.out.below hb4)
  go_wp2_with (refine wpList_load_row rfl 42 _ rfl w.heap.size rfl 42 p.cells (0, 0) _ Hat4.out Try.underlying42 rfl HI.out ?_)
  refine (RP.out _).mono ?_
  rintro e w5 ⟨rfl, hb5⟩
  have Hat5 := Lib.hid (Hat4.out.below hb5)
  have z1 := hb1.size
  have z2 := hb2.size
  have z3 := hb3.size
  have z4 := hb4.size
  simp at z1
  have hfin : Below w.heap.size w w5 := ((((hb0.trans (below_le hb1 (by simp))).trans (below_le hb2 (by omega))).trans (below_le hb3 (by omega))).trans (below_le hb4 (by omega))).trans (below_le hb5 (by omega))
  have z5 : w.heap.size ≤ w5.heap.size := hfin.size
  clear z1 z2 z3 z4 hb1 hb2 hb3 hb4 hb5
  have cf := CF.out _ Hat5.out
  go_wp2_with fail
  go_ret
  exact ⟨by simp, hfin⟩

set_option maxRecDepth 100000 in
set_option maxHeartbeats 1000000 in
theorem worth_in_lo_ok (p : Pol) (a r g : Int) (w : World) (hok : p.ok = true) (hr : isK r = true) (hg : g < 0) (hm : monB a = true) : Calls Try.prog 9 #[.agg p.cells, .int .i64 a, .int .i64 r, .int .i64 g] w fun e w' => e = .returned (.bool true) ∧ Below w.heap.size w w' := by
  have Hat := Lib.hid (Pol.At.alloc p w)
  have HI := Lib.hid (pol_info p)
  have W1 := Lib.hid (worth_any p a r g)
  have W2 := Lib.hid (fee_any p a r)
  have W3 := Lib.hid (to_any p g)
  have RP := Lib.hid (ref_pol p)
  have hb0 : Below w.heap.size w (w.alloc (.cells p.cells 42)) := (Below.refl _ _).alloc (Nat.le_refl _) _
  obtain ⟨ha0, ha1⟩ := monB_iff.1 hm
  have da : decide (a < 0) = false := by simp; omega
  obtain ⟨r0, r4⟩ := isK_iff.1 hr
  have kr := (Pol.ok_at hok r.toNat (by omega)).1
  have CF : Hid (∀ w2, p.At w2 w.heap.size → w2.cell? ⟨w.heap.size, 4 + r.toNat, none⟩ = some (.int .i64 (p.F r.toNat))) := Lib.hid (fun w2 h => h.fee r.toNat (by omega))
  have hg' : isK g = false := by simp [isK]; omega
  have e1 : worthV p a r g = 0 ∧ worthE p a r g = 1 := by simp [worthV, worthE, hok, hr, hg']
  obtain ⟨q1, q2⟩ := part_of hm kr
  have FP := Lib.hid (fun w => refpart_any a (p.F r.toNat) 10000 w (by omega))
  rw [q1, q2] at FP
  have e2 : feeV p a r = a * p.F r.toNat / 10000 ∧ feeE p a r = 0 := by simp [feeV, feeE, hok, hr, q1, q2]
  have e3 : toV p g = 0 ∧ toE p g = 1 := by simp [toV, toE, hok, hg']
  have dg : decide (0 ≤ g) = false := by simp; omega
  rw [e1.1, e1.2] at W1
  rw [e2.1, e2.2] at W2
  rw [e3.1, e3.2] at W3
  rw [hok] at RP
  clear e1 e2 e3 hm hr hg' hok kr q1 q2
  generalize a * p.F r.toNat / 10000 = y at *
  generalize p.F r.toNat = f at *
  go_enter Try.func9, Try.ntmps9
  go_wp2_with fail
  refine (awake09 _).mono ?_
  rintro e w1 ⟨rfl, hb1⟩
  have Hat1 := Lib.hid (Hat.out.below hb1)
  go_wp2_with (refine wpList_load_row rfl 42 _ rfl w.heap.size rfl 42 p.cells (0, 0) _ Hat1.out Try.underlying42 rfl HI.out ?_)
  refine (W1.out _).mono ?_
  rintro e w2 ⟨rfl, hb2⟩
  have Hat2 := Lib.hid (Hat1.out.below hb2)
  go_wp2_with (refine wpList_load_row rfl 42 _ rfl w.heap.size rfl 42 p.cells (0, 0) _ Hat2.out Try.underlying42 rfl HI.out ?_)
  refine (W2.out _).mono ?_
  rintro e w3 ⟨rfl, hb3⟩
  have Hat3 := Lib.hid (Hat2.out.below hb3)
  go_wp2_with (refine wpList_load_row rfl 42 _ rfl w.heap.size rfl 42 p.cells (0, 0) _ Hat3.out Try.underlying42 rfl HI.out ?_)
  refine (W3.out _).mono ?_
  rintro e w4 ⟨rfl, hb4⟩
  have Hat4 := Lib.hid (Hat3.out.below hb4)
  go_wp2_with (refine wpList_load_row rfl 42 _ rfl w.heap.size rfl 42 p.cells (0, 0) _ Hat4.out Try.underlying42 rfl HI.out ?_)
  refine (RP.out _).mono ?_
  rintro e w5 ⟨rfl, hb5⟩
  have Hat5 := Lib.hid (Hat4.out.below hb5)
  have z1 := hb1.size
  have z2 := hb2.size
  have z3 := hb3.size
  have z4 := hb4.size
  simp at z1
  have hfin : Below w.heap.size w w5 := ((((hb0.trans (below_le hb1 (by simp))).trans (below_le hb2 (by omega))).trans (below_le hb3 (by omega))).trans (below_le hb4 (by omega))).trans (below_le hb5 (by omega))
  have z5 : w.heap.size ≤ w5.heap.size := hfin.size
  clear z1 z2 z3 z4 hb1 hb2 hb3 hb4 hb5
  have cf := CF.out _ Hat5.out
  go_wp2_with (go_at_call 17; refine (FP.out _).mono ?_; rintro e w' ⟨rfl, rfl⟩)
  go_ret
  exact ⟨by simp, hfin⟩

set_option maxRecDepth 100000 in
set_option maxHeartbeats 1000000 in
theorem worth0_in_hi (p : Pol) (a r g : Int) (w : World) (hok : p.ok = false) (hr : isK r = true) (hg : 4 ≤ g) : Calls Try.prog 9 #[.agg p.cells, .int .i64 a, .int .i64 r, .int .i64 g] w fun e w' => e = .returned (.bool true) ∧ Below w.heap.size w w' := by
  have Hat := Lib.hid (Pol.At.alloc p w)
  have HI := Lib.hid (pol_info p)
  have W1 := Lib.hid (worth_any p a r g)
  have W2 := Lib.hid (fee_any p a r)
  have W3 := Lib.hid (to_any p g)
  have RP := Lib.hid (ref_pol p)
  have hb0 : Below w.heap.size w (w.alloc (.cells p.cells 42)) := (Below.refl _ _).alloc (Nat.le_refl _) _
  obtain ⟨r0, r4⟩ := isK_iff.1 hr
  have dg0 : 0 ≤ g := by omega
  have dg : decide (g < 4) = false := by simp; omega
  have e1 : worthV p a r g = 0 ∧ worthE p a r g = 10 := by simp [worthV, worthE, hok]
  have e2 : feeV p a r = 0 ∧ feeE p a r = 10 := by simp [feeV, feeE, hok]
  have e3 : toV p g = 0 ∧ toE p g = 10 := by simp [toV, toE, hok]
  rw [e1.1, e1.2] at W1
  rw [e2.1, e2.2] at W2
  rw [e3.1, e3.2] at W3
  rw [hok] at RP
  clear e1 e2 e3
  go_enter Try.func9, Try.ntmps9
  go_wp2_with fail
  refine (awake09 _).mono ?_
  rintro e w1 ⟨rfl, hb1⟩
  have Hat1 := Lib.hid (Hat.out.below hb1)
  go_wp2_with (refine wpList_load_row rfl 42 _ rfl w.heap.size rfl 42 p.cells (0, 0) _ Hat1.out Try.underlying42 rfl HI.out ?_)
  refine (W1.out _).mono ?_
  rintro e w2 ⟨rfl, hb2⟩
  have Hat2 := Lib.hid (Hat1.out.below hb2)
  go_wp2_with (refine wpList_load_row rfl 42 _ rfl w.heap.size rfl 42 p.cells (0, 0) _ Hat2.out Try.underlying42 rfl HI.out ?_)
  refine (W2.out _).mono ?_
  rintro e w3 ⟨rfl, hb3⟩
  have Hat3 := Lib.hid (Hat2.out.below hb3)
  go_wp2_with (refine wpList_load_row rfl 42 _ rfl w.heap.size rfl 42 p.cells (0, 0) _ Hat3.out Try.underlying42 rfl HI.out ?_)
  refine (W3.out _).mono ?_
  rintro e w4 ⟨rfl, hb4⟩
  have Hat4 := Lib.hid (Hat3.out.below hb4)
  go_wp2_with (refine wpList_load_row rfl 42 _ rfl w.heap.size rfl 42 p.cells (0, 0) _ Hat4.out Try.underlying42 rfl HI.out ?_)
  refine (RP.out _).mono ?_
  rintro e w5 ⟨rfl, hb5⟩
  have Hat5 := Lib.hid (Hat4.out.below hb5)
  have z1 := hb1.size
  have z2 := hb2.size
  have z3 := hb3.size
  have z4 := hb4.size
  simp at z1
  have hfin : Below w.heap.size w w5 := ((((hb0.trans (below_le hb1 (by simp))).trans (below_le hb2 (by omega))).trans (below_le hb3 (by omega))).trans (below_le hb4 (by omega))).trans (below_le hb5 (by omega))
  have z5 : w.heap.size ≤ w5.heap.size := hfin.size
  clear z1 z2 z3 z4 hb1 hb2 hb3 hb4 hb5
  go_wp2_with fail
  go_ret
  exact ⟨by simp, hfin⟩

set_option maxRecDepth 100000 in
set_option maxHeartbeats 1000000 in
theorem worth_in_hi_lo (p : Pol) (a r g : Int) (w : World) (hok : p.ok = true) (hr : isK r = true) (hg : 4 ≤ g) (ha : a < 0) : Calls Try.prog 9 #[.agg p.cells, .int .i64 a, .int .i64 r, .int .i64 g] w fun e w' => e = .returned (.bool true) ∧ Below w.heap.size w w' := by
  have Hat := Lib.hid (Pol.At.alloc p w)
  have HI := Lib.hid (pol_info p)
  have W1 := Lib.hid (worth_any p a r g)
  have W2 := Lib.hid (fee_any p a r)
  have W3 := Lib.hid (to_any p g)
  have RP := Lib.hid (ref_pol p)
  have hb0 : Below w.heap.size w (w.alloc (.cells p.cells 42)) := (Below.refl _ _).alloc (Nat.le_refl _) _
  have hm : monB a = false := by simp [monB]; omega
  obtain ⟨r0, r4⟩ := isK_iff.1 hr
  have kr := (Pol.ok_at hok r.toNat (by omega)).1
  have CF : Hid (∀ w2, p.At w2 w.heap.size → w2.cell? ⟨w.heap.size, 4 + r.toNat, none⟩ = some (.int .i64 (p.F r.toNat))) := Lib.hid (fun w2 h => h.fee r.toNat (by omega))
  have hg' : isK g = false := by simp [isK]; omega
  have e1 : worthV p a r g = 0 ∧ worthE p a r g = 1 := by simp [worthV, worthE, hok, hr, hg']
  have e2 : feeV p a r = 0 ∧ feeE p a r = 9 := by simp [feeV, feeE, hok, hr, partV, partE, hm]
  have e3 : toV p g = 0 ∧ toE p g = 1 := by simp [toV, toE, hok, hg']
  have dg0 : 0 ≤ g := by omega
  have dg : decide (g < 4) = false := by simp; omega
  rw [e1.1, e1.2] at W1
  rw [e2.1, e2.2] at W2
  rw [e3.1, e3.2] at W3
  rw [hok] at RP
  clear e1 e2 e3 hm hr hg' hok kr
  generalize p.F r.toNat = f at *
  go_enter Try.func9, Try.ntmps9
  go_wp2_with fail
  refine (awake09 _).mono ?_
  rintro e w1 ⟨rfl, hb1⟩
  have Hat1 := Lib.hid (Hat.out.below hb1)
  go_wp2_with (refine wpList_load_row rfl 42 _ rfl w.heap.size rfl 42 p.cells (0, 0) _ Hat1.out Try.underlying42 rfl HI.out ?_)
  refine (W1.out _).mono ?_
  rintro e w2 ⟨rfl, hb2⟩
  have Hat2 := Lib.hid (Hat1.out.below hb2)
  go_wp2_with (refine wpList_load_row rfl 42 _ rfl w.heap.size rfl 42 p.cells (0, 0) _ Hat2.out Try.underlying42 rfl HI.out ?_)
  refine (W2.out _).mono ?_
  rintro e w3 ⟨rfl, hb3⟩
  have Hat3 := Lib.hid (Hat2.out.below hb3)
  go_wp2_with (refine wpList_load_row rfl 42 _ rfl w.heap.size rfl 42 p.cells (0, 0) _ Hat3.out Try.underlying42 rfl HI.out ?_)
  refine (W3.out _).mono ?_
  rintro e w4 ⟨rfl, hb4⟩
  have Hat4 := Lib.hid (Hat3.out.below hb4)
  go_wp2_with (refine wpList_load_row rfl 42 _ rfl w.heap.size rfl 42 p.cells (0, 0) _ Hat4.out Try.underlying42 rfl HI.out ?_)
  refine (RP.out _).mono ?_
  rintro e w5 ⟨rfl, hb5⟩
  have Hat5 := Lib.hid (Hat4.out.below hb5)
  have z1 := hb1.size
  have z2 := hb2.size
  have z3 := hb3.size
  have z4 := hb4.size
  simp at z1
  have hfin : Below w.heap.size w w5 := ((((hb0.trans (below_le hb1 (by simp))).trans (below_le hb2 (by omega))).trans (below_le hb3 (by omega))).trans (below_le hb4 (by omega))).trans (below_le hb5 (by omega))
  have z5 : w.heap.size ≤ w5.heap.size := hfin.size
  clear z1 z2 z3 z4 hb1 hb2 hb3 hb4 hb5
  have cf := CF.out _ Hat5.out
  go_wp2_with fail
  go_ret
  exact ⟨by simp, hfin⟩

set_option maxRecDepth 100000 in
set_option maxHeartbeats 1000000 in
theorem worth_in_hi_hi (p : Pol) (a r g : Int) (w : World) (hok : p.ok = true) (hr : isK r = true) (hg : 4 ≤ g) (ha : 1125899906842624 < a) : Calls Try.prog 9 #[.agg p.cells, .int .i64 a, .int .i64 r, .int .i64 g] w fun e w' => e = .returned (.bool true) ∧ Below w.heap.size w w' := by
  have Hat := Lib.hid (Pol.At.alloc p w)
  have HI := Lib.hid (pol_info p)
  have W1 := Lib.hid (worth_any p a r g)
  have W2 := Lib.hid (fee_any p a r)
  have W3 := Lib.hid (to_any p g)
  have RP := Lib.hid (ref_pol p)
  have hb0 : Below w.heap.size w (w.alloc (.cells p.cells 42)) := (Below.refl _ _).alloc (Nat.le_refl _) _
  have hm : monB a = false := by simp [monB]; omega
  have da : decide (a < 0) = false := by simp; omega
  obtain ⟨r0, r4⟩ := isK_iff.1 hr
  have kr := (Pol.ok_at hok r.toNat (by omega)).1
  have CF : Hid (∀ w2, p.At w2 w.heap.size → w2.cell? ⟨w.heap.size, 4 + r.toNat, none⟩ = some (.int .i64 (p.F r.toNat))) := Lib.hid (fun w2 h => h.fee r.toNat (by omega))
  have hg' : isK g = false := by simp [isK]; omega
  have e1 : worthV p a r g = 0 ∧ worthE p a r g = 1 := by simp [worthV, worthE, hok, hr, hg']
  have e2 : feeV p a r = 0 ∧ feeE p a r = 9 := by simp [feeV, feeE, hok, hr, partV, partE, hm]
  have e3 : toV p g = 0 ∧ toE p g = 1 := by simp [toV, toE, hok, hg']
  have dg0 : 0 ≤ g := by omega
  have dg : decide (g < 4) = false := by simp; omega
  rw [e1.1, e1.2] at W1
  rw [e2.1, e2.2] at W2
  rw [e3.1, e3.2] at W3
  rw [hok] at RP
  clear e1 e2 e3 hm hr hg' hok kr
  generalize p.F r.toNat = f at *
  go_enter Try.func9, Try.ntmps9
  go_wp2_with fail
  refine (awake09 _).mono ?_
  rintro e w1 ⟨rfl, hb1⟩
  have Hat1 := Lib.hid (Hat.out.below hb1)
  go_wp2_with (refine wpList_load_row rfl 42 _ rfl w.heap.size rfl 42 p.cells (0, 0) _ Hat1.out Try.underlying42 rfl HI.out ?_)
  refine (W1.out _).mono ?_
  rintro e w2 ⟨rfl, hb2⟩
  have Hat2 := Lib.hid (Hat1.out.below hb2)
  go_wp2_with (refine wpList_load_row rfl 42 _ rfl w.heap.size rfl 42 p.cells (0, 0) _ Hat2.out Try.underlying42 rfl HI.out ?_)
  refine (W2.out _).mono ?_
  rintro e w3 ⟨rfl, hb3⟩
  have Hat3 := Lib.hid (Hat2.out.below hb3)
  go_wp2_with (refine wpList_load_row rfl 42 _ rfl w.heap.size rfl 42 p.cells (0, 0) _ Hat3.out Try.underlying42 rfl HI.out ?_)
  refine (W3.out _).mono ?_
  rintro e w4 ⟨rfl, hb4⟩
  have Hat4 := Lib.hid (Hat3.out.below hb4)
  go_wp2_with (refine wpList_load_row rfl 42 _ rfl w.heap.size rfl 42 p.cells (0, 0) _ Hat4.out Try.underlying42 rfl HI.out ?_)
  refine (RP.out _).mono ?_
  rintro e w5 ⟨rfl, hb5⟩
  have Hat5 := Lib.hid (Hat4.out.below hb5)
  have z1 := hb1.size
  have z2 := hb2.size
  have z3 := hb3.size
  have z4 := hb4.size
  simp at z1
  have hfin : Below w.heap.size w w5 := ((((hb0.trans (below_le hb1 (by simp))).trans (below_le hb2 (by omega))).trans (below_le hb3 (by omega))).trans (below_le hb4 (by omega))).trans (below_le hb5 (by omega))
  have z5 : w.heap.size ≤ w5.heap.size := hfin.size
  clear z1 z2 z3 z4 hb1 hb2 hb3 hb4 hb5
  have cf := CF.out _ Hat5.out
  go_wp2_with fail
  go_ret
  exact ⟨by simp, hfin⟩

set_option maxRecDepth 100000 in
set_option maxHeartbeats 1000000 in
theorem worth_in_hi_ok (p : Pol) (a r g : Int) (w : World) (hok : p.ok = true) (hr : isK r = true) (hg : 4 ≤ g) (hm : monB a = true) : Calls Try.prog 9 #[.agg p.cells, .int .i64 a, .int .i64 r, .int .i64 g] w fun e w' => e = .returned (.bool true) ∧ Below w.heap.size w w' := by
  have Hat := Lib.hid (Pol.At.alloc p w)
  have HI := Lib.hid (pol_info p)
  have W1 := Lib.hid (worth_any p a r g)
  have W2 := Lib.hid (fee_any p a r)
  have W3 := Lib.hid (to_any p g)
  have RP := Lib.hid (ref_pol p)
  have hb0 : Below w.heap.size w (w.alloc (.cells p.cells 42)) := (Below.refl _ _).alloc (Nat.le_refl _) _
  obtain ⟨ha0, ha1⟩ := monB_iff.1 hm
  have da : decide (a < 0) = false := by simp; omega
  obtain ⟨r0, r4⟩ := isK_iff.1 hr
  have kr := (Pol.ok_at hok r.toNat (by omega)).1
  have CF : Hid (∀ w2, p.At w2 w.heap.size → w2.cell? ⟨w.heap.size, 4 + r.toNat, none⟩ = some (.int .i64 (p.F r.toNat))) := Lib.hid (fun w2 h => h.fee r.toNat (by omega))
  have hg' : isK g = false := by simp [isK]; omega
  have e1 : worthV p a r g = 0 ∧ worthE p a r g = 1 := by simp [worthV, worthE, hok, hr, hg']
  obtain ⟨q1, q2⟩ := part_of hm kr
  have FP := Lib.hid (fun w => refpart_any a (p.F r.toNat) 10000 w (by omega))
  rw [q1, q2] at FP
  have e2 : feeV p a r = a * p.F r.toNat / 10000 ∧ feeE p a r = 0 := by simp [feeV, feeE, hok, hr, q1, q2]
  have e3 : toV p g = 0 ∧ toE p g = 1 := by simp [toV, toE, hok, hg']
  have dg0 : 0 ≤ g := by omega
  have dg : decide (g < 4) = false := by simp; omega
  rw [e1.1, e1.2] at W1
  rw [e2.1, e2.2] at W2
  rw [e3.1, e3.2] at W3
  rw [hok] at RP
  clear e1 e2 e3 hm hr hg' hok kr q1 q2
  generalize a * p.F r.toNat / 10000 = y at *
  generalize p.F r.toNat = f at *
  go_enter Try.func9, Try.ntmps9
  go_wp2_with fail
  refine (awake09 _).mono ?_
  rintro e w1 ⟨rfl, hb1⟩
  have Hat1 := Lib.hid (Hat.out.below hb1)
  go_wp2_with (refine wpList_load_row rfl 42 _ rfl w.heap.size rfl 42 p.cells (0, 0) _ Hat1.out Try.underlying42 rfl HI.out ?_)
  refine (W1.out _).mono ?_
  rintro e w2 ⟨rfl, hb2⟩
  have Hat2 := Lib.hid (Hat1.out.below hb2)
  go_wp2_with (refine wpList_load_row rfl 42 _ rfl w.heap.size rfl 42 p.cells (0, 0) _ Hat2.out Try.underlying42 rfl HI.out ?_)
  refine (W2.out _).mono ?_
  rintro e w3 ⟨rfl, hb3⟩
  have Hat3 := Lib.hid (Hat2.out.below hb3)
  go_wp2_with (refine wpList_load_row rfl 42 _ rfl w.heap.size rfl 42 p.cells (0, 0) _ Hat3.out Try.underlying42 rfl HI.out ?_)
  refine (W3.out _).mono ?_
  rintro e w4 ⟨rfl, hb4⟩
  have Hat4 := Lib.hid (Hat3.out.below hb4)
  go_wp2_with (refine wpList_load_row rfl 42 _ rfl w.heap.size rfl 42 p.cells (0, 0) _ Hat4.out Try.underlying42 rfl HI.out ?_)
  refine (RP.out _).mono ?_
  rintro e w5 ⟨rfl, hb5⟩
  have Hat5 := Lib.hid (Hat4.out.below hb5)
  have z1 := hb1.size
  have z2 := hb2.size
  have z3 := hb3.size
  have z4 := hb4.size
  simp at z1
  have hfin : Below w.heap.size w w5 := ((((hb0.trans (below_le hb1 (by simp))).trans (below_le hb2 (by omega))).trans (below_le hb3 (by omega))).trans (below_le hb4 (by omega))).trans (below_le hb5 (by omega))
  have z5 : w.heap.size ≤ w5.heap.size := hfin.size
  clear z1 z2 z3 z4 hb1 hb2 hb3 hb4 hb5
  have cf := CF.out _ Hat5.out
  go_wp2_with (go_at_call 17; refine (FP.out _).mono ?_; rintro e w' ⟨rfl, rfl⟩)
  go_ret
  exact ⟨by simp, hfin⟩

set_option maxRecDepth 100000 in
set_option maxHeartbeats 1000000 in
theorem worth0_in_in (p : Pol) (a r g : Int) (w : World) (hok : p.ok = false) (hr : isK r = true) (hg : isK g = true) : Calls Try.prog 9 #[.agg p.cells, .int .i64 a, .int .i64 r, .int .i64 g] w fun e w' => e = .returned (.bool true) ∧ Below w.heap.size w w' := by
  have Hat := Lib.hid (Pol.At.alloc p w)
  have HI := Lib.hid (pol_info p)
  have W1 := Lib.hid (worth_any p a r g)
  have W2 := Lib.hid (fee_any p a r)
  have W3 := Lib.hid (to_any p g)
  have RP := Lib.hid (ref_pol p)
  have hb0 : Below w.heap.size w (w.alloc (.cells p.cells 42)) := (Below.refl _ _).alloc (Nat.le_refl _) _
  obtain ⟨r0, r4⟩ := isK_iff.1 hr
  obtain ⟨g0, g4⟩ := isK_iff.1 hg
  have e1 : worthV p a r g = 0 ∧ worthE p a r g = 10 := by simp [worthV, worthE, hok]
  have e2 : feeV p a r = 0 ∧ feeE p a r = 10 := by simp [feeV, feeE, hok]
  have e3 : toV p g = 0 ∧ toE p g = 10 := by simp [toV, toE, hok]
  rw [e1.1, e1.2] at W1
  rw [e2.1, e2.2] at W2
  rw [e3.1, e3.2] at W3
  rw [hok] at RP
  clear e1 e2 e3
  go_enter Try.func9, Try.ntmps9
  go_wp2_with fail
  refine (awake09 _).mono ?_
  rintro e w1 ⟨rfl, hb1⟩
  have Hat1 := Lib.hid (Hat.out.below hb1)
  go_wp2_with (refine wpList_load_row rfl 42 _ rfl w.heap.size rfl 42 p.cells (0, 0) _ Hat1.out Try.underlying42 rfl HI.out ?_)
  refine (W1.out _).mono ?_
  rintro e w2 ⟨rfl, hb2⟩
  have Hat2 := Lib.hid (Hat1.out.below hb2)
  go_wp2_with (refine wpList_load_row rfl 42 _ rfl w.heap.size rfl 42 p.cells (0, 0) _ Hat2.out Try.underlying42 rfl HI.out ?_)
  refine (W2.out _).mono ?_
  rintro e w3 ⟨rfl, hb3⟩
  have Hat3 := Lib.hid (Hat2.out.below hb3)
  go_wp2_with (refine wpList_load_row rfl 42 _ rfl w.heap.size rfl 42 p.cells (0, 0) _ Hat3.out Try.underlying42 rfl HI.out ?_)
  refine (W3.out _).mono ?_
  rintro e w4 ⟨rfl, hb4⟩
  have Hat4 := Lib.hid (Hat3.out.below hb4)
  go_wp2_with (refine wpList_load_row rfl 42 _ rfl w.heap.size rfl 42 p.cells (0, 0) _ Hat4.out Try.underlying42 rfl HI.out ?_)
  refine (RP.out _).mono ?_
  rintro e w5 ⟨rfl, hb5⟩
  have Hat5 := Lib.hid (Hat4.out.below hb5)
  have z1 := hb1.size
  have z2 := hb2.size
  have z3 := hb3.size
  have z4 := hb4.size
  simp at z1
  have hfin : Below w.heap.size w w5 := ((((hb0.trans (below_le hb1 (by simp))).trans (below_le hb2 (by omega))).trans (below_le hb3 (by omega))).trans (below_le hb4 (by omega))).trans (below_le hb5 (by omega))
  have z5 : w.heap.size ≤ w5.heap.size := hfin.size
  clear z1 z2 z3 z4 hb1 hb2 hb3 hb4 hb5
  go_wp2_with fail
  go_ret
  exact ⟨by simp, hfin⟩

set_option maxRecDepth 100000 in
set_option maxHeartbeats 1000000 in
theorem worth_in_in_lo (p : Pol) (a r g : Int) (w : World) (hok : p.ok = true) (hr : isK r = true) (hg : isK g = true) (ha : a < 0) : Calls Try.prog 9 #[.agg p.cells, .int .i64 a, .int .i64 r, .int .i64 g] w fun e w' => e = .returned (.bool true) ∧ Below w.heap.size w w' := by
  have Hat := Lib.hid (Pol.At.alloc p w)
  have HI := Lib.hid (pol_info p)
  have W1 := Lib.hid (worth_any p a r g)
  have W2 := Lib.hid (fee_any p a r)
  have W3 := Lib.hid (to_any p g)
  have RP := Lib.hid (ref_pol p)
  have hb0 : Below w.heap.size w (w.alloc (.cells p.cells 42)) := (Below.refl _ _).alloc (Nat.le_refl _) _
  have hm : monB a = false := by simp [monB]; omega
  obtain ⟨r0, r4⟩ := isK_iff.1 hr
  have kr := (Pol.ok_at hok r.toNat (by omega)).1
  have CF : Hid (∀ w2, p.At w2 w.heap.size → w2.cell? ⟨w.heap.size, 4 + r.toNat, none⟩ = some (.int .i64 (p.F r.toNat))) := Lib.hid (fun w2 h => h.fee r.toNat (by omega))
  obtain ⟨g0, g4⟩ := isK_iff.1 hg
  have CT : Hid (∀ w2, p.At w2 w.heap.size → w2.cell? ⟨w.heap.size, 8 + g.toNat * 2 + 1, none⟩ = some (.int .i64 (p.T g.toNat))) := Lib.hid (fun w2 h => h.to g.toNat (by omega))
  have e1 : worthV p a r g = 0 ∧ worthE p a r g = 9 := by simp [worthV, worthE, hok, hr, hg, hm]
  have e2 : feeV p a r = 0 ∧ feeE p a r = 9 := by simp [feeV, feeE, hok, hr, partV, partE, hm]
  have e3 : toV p g = p.T g.toNat ∧ toE p g = 0 := by simp [toV, toE, hok, hg]
  rw [e1.1, e1.2] at W1
  rw [e2.1, e2.2] at W2
  rw [e3.1, e3.2] at W3
  rw [hok] at RP
  clear e1 e2 e3 hm hr hg hok kr
  generalize p.F r.toNat = f at *
  generalize p.T g.toNat = tt at *
  go_enter Try.func9, Try.ntmps9
  go_wp2_with fail
  refine (awake09 _).mono ?_
  rintro e w1 ⟨rfl, hb1⟩
  have Hat1 := Lib.hid (Hat.out.below hb1)
  go_wp2_with (refine wpList_load_row rfl 42 _ rfl w.heap.size rfl 42 p.cells (0, 0) _ Hat1.out Try.underlying42 rfl HI.out ?_)
  refine (W1.out _).mono ?_
  rintro e w2 ⟨rfl, hb2⟩
  have Hat2 := Lib.hid (Hat1.out.below hb2)
  go_wp2_with (refine wpList_load_row rfl 42 _ rfl w.heap.size rfl 42 p.cells (0, 0) _ Hat2.out Try.underlying42 rfl HI.out ?_)
  refine (W2.out _).mono ?_
  rintro e w3 ⟨rfl, hb3⟩
  have Hat3 := Lib.hid (Hat2.out.below hb3)
  go_wp2_with (refine wpList_load_row rfl 42 _ rfl w.heap.size rfl 42 p.cells (0, 0) _ Hat3.out Try.underlying42 rfl HI.out ?_)
  refine (W3.out _).mono ?_
  rintro e w4 ⟨rfl, hb4⟩
  have Hat4 := Lib.hid (Hat3.out.below hb4)
  go_wp2_with (refine wpList_load_row rfl 42 _ rfl w.heap.size rfl 42 p.cells (0, 0) _ Hat4.out Try.underlying42 rfl HI.out ?_)
  refine (RP.out _).mono ?_
  rintro e w5 ⟨rfl, hb5⟩
  have Hat5 := Lib.hid (Hat4.out.below hb5)
  have z1 := hb1.size
  have z2 := hb2.size
  have z3 := hb3.size
  have z4 := hb4.size
  simp at z1
  have hfin : Below w.heap.size w w5 := ((((hb0.trans (below_le hb1 (by simp))).trans (below_le hb2 (by omega))).trans (below_le hb3 (by omega))).trans (below_le hb4 (by omega))).trans (below_le hb5 (by omega))
  have z5 : w.heap.size ≤ w5.heap.size := hfin.size
  clear z1 z2 z3 z4 hb1 hb2 hb3 hb4 hb5
  have ct := CT.out _ Hat5.out
  have cf := CF.out _ Hat5.out
  go_wp2_with fail
  go_ret
  exact ⟨by simp, hfin⟩

set_option maxRecDepth 100000 in
set_option maxHeartbeats 1000000 in
theorem worth_in_in_hi (p : Pol) (a r g : Int) (w : World) (hok : p.ok = true) (hr : isK r = true) (hg : isK g = true) (ha : 1125899906842624 < a) : Calls Try.prog 9 #[.agg p.cells, .int .i64 a, .int .i64 r, .int .i64 g] w fun e w' => e = .returned (.bool true) ∧ Below w.heap.size w w' := by
  have Hat := Lib.hid (Pol.At.alloc p w)
  have HI := Lib.hid (pol_info p)
  have W1 := Lib.hid (worth_any p a r g)
  have W2 := Lib.hid (fee_any p a r)
  have W3 := Lib.hid (to_any p g)
  have RP := Lib.hid (ref_pol p)
  have hb0 : Below w.heap.size w (w.alloc (.cells p.cells 42)) := (Below.refl _ _).alloc (Nat.le_refl _) _
  have hm : monB a = false := by simp [monB]; omega
  have da : decide (a < 0) = false := by simp; omega
  obtain ⟨r0, r4⟩ := isK_iff.1 hr
  have kr := (Pol.ok_at hok r.toNat (by omega)).1
  have CF : Hid (∀ w2, p.At w2 w.heap.size → w2.cell? ⟨w.heap.size, 4 + r.toNat, none⟩ = some (.int .i64 (p.F r.toNat))) := Lib.hid (fun w2 h => h.fee r.toNat (by omega))
  obtain ⟨g0, g4⟩ := isK_iff.1 hg
  have CT : Hid (∀ w2, p.At w2 w.heap.size → w2.cell? ⟨w.heap.size, 8 + g.toNat * 2 + 1, none⟩ = some (.int .i64 (p.T g.toNat))) := Lib.hid (fun w2 h => h.to g.toNat (by omega))
  have e1 : worthV p a r g = 0 ∧ worthE p a r g = 9 := by simp [worthV, worthE, hok, hr, hg, hm]
  have e2 : feeV p a r = 0 ∧ feeE p a r = 9 := by simp [feeV, feeE, hok, hr, partV, partE, hm]
  have e3 : toV p g = p.T g.toNat ∧ toE p g = 0 := by simp [toV, toE, hok, hg]
  rw [e1.1, e1.2] at W1
  rw [e2.1, e2.2] at W2
  rw [e3.1, e3.2] at W3
  rw [hok] at RP
  clear e1 e2 e3 hm hr hg hok kr
  generalize p.F r.toNat = f at *
  generalize p.T g.toNat = tt at *
  go_enter Try.func9, Try.ntmps9
  go_wp2_with fail
  refine (awake09 _).mono ?_
  rintro e w1 ⟨rfl, hb1⟩
  have Hat1 := Lib.hid (Hat.out.below hb1)
  go_wp2_with (refine wpList_load_row rfl 42 _ rfl w.heap.size rfl 42 p.cells (0, 0) _ Hat1.out Try.underlying42 rfl HI.out ?_)
  refine (W1.out _).mono ?_
  rintro e w2 ⟨rfl, hb2⟩
  have Hat2 := Lib.hid (Hat1.out.below hb2)
  go_wp2_with (refine wpList_load_row rfl 42 _ rfl w.heap.size rfl 42 p.cells (0, 0) _ Hat2.out Try.underlying42 rfl HI.out ?_)
  refine (W2.out _).mono ?_
  rintro e w3 ⟨rfl, hb3⟩
  have Hat3 := Lib.hid (Hat2.out.below hb3)
  go_wp2_with (refine wpList_load_row rfl 42 _ rfl w.heap.size rfl 42 p.cells (0, 0) _ Hat3.out Try.underlying42 rfl HI.out ?_)
  refine (W3.out _).mono ?_
  rintro e w4 ⟨rfl, hb4⟩
  have Hat4 := Lib.hid (Hat3.out.below hb4)
  go_wp2_with (refine wpList_load_row rfl 42 _ rfl w.heap.size rfl 42 p.cells (0, 0) _ Hat4.out Try.underlying42 rfl HI.out ?_)
  refine (RP.out _).mono ?_
  rintro e w5 ⟨rfl, hb5⟩
  have Hat5 := Lib.hid (Hat4.out.below hb5)
  have z1 := hb1.size
  have z2 := hb2.size
  have z3 := hb3.size
  have z4 := hb4.size
  simp at z1
  have hfin : Below w.heap.size w w5 := ((((hb0.trans (below_le hb1 (by simp))).trans (below_le hb2 (by omega))).trans (below_le hb3 (by omega))).trans (below_le hb4 (by omega))).trans (below_le hb5 (by omega))
  have z5 : w.heap.size ≤ w5.heap.size := hfin.size
  clear z1 z2 z3 z4 hb1 hb2 hb3 hb4 hb5
  have ct := CT.out _ Hat5.out
  have cf := CF.out _ Hat5.out
  go_wp2_with fail
  go_ret
  exact ⟨by simp, hfin⟩

set_option maxRecDepth 100000 in
set_option maxHeartbeats 1000000 in
theorem worth_in_in_ok (p : Pol) (a r g : Int) (w : World) (hok : p.ok = true) (hr : isK r = true) (hg : isK g = true) (hm : monB a = true) : Calls Try.prog 9 #[.agg p.cells, .int .i64 a, .int .i64 r, .int .i64 g] w fun e w' => e = .returned (.bool true) ∧ Below w.heap.size w w' := by
  have Hat := Lib.hid (Pol.At.alloc p w)
  have HI := Lib.hid (pol_info p)
  have W1 := Lib.hid (worth_any p a r g)
  have W2 := Lib.hid (fee_any p a r)
  have W3 := Lib.hid (to_any p g)
  have RP := Lib.hid (ref_pol p)
  have hb0 : Below w.heap.size w (w.alloc (.cells p.cells 42)) := (Below.refl _ _).alloc (Nat.le_refl _) _
  obtain ⟨ha0, ha1⟩ := monB_iff.1 hm
  have da : decide (a < 0) = false := by simp; omega
  obtain ⟨r0, r4⟩ := isK_iff.1 hr
  have kr := (Pol.ok_at hok r.toNat (by omega)).1
  have CF : Hid (∀ w2, p.At w2 w.heap.size → w2.cell? ⟨w.heap.size, 4 + r.toNat, none⟩ = some (.int .i64 (p.F r.toNat))) := Lib.hid (fun w2 h => h.fee r.toNat (by omega))
  obtain ⟨g0, g4⟩ := isK_iff.1 hg
  have CT : Hid (∀ w2, p.At w2 w.heap.size → w2.cell? ⟨w.heap.size, 8 + g.toNat * 2 + 1, none⟩ = some (.int .i64 (p.T g.toNat))) := Lib.hid (fun w2 h => h.to g.toNat (by omega))
  have RW := Lib.hid (fun w => refworth_any p a r g w hok hr hg hm)
  have e1 : worthV p a r g = net a (p.S g.toNat) (p.F r.toNat) ∧ worthE p a r g = 0 := by simp [worthV, worthE, hok, hr, hg, hm]
  obtain ⟨q1, q2⟩ := part_of hm kr
  have FP := Lib.hid (fun w => refpart_any a (p.F r.toNat) 10000 w (by omega))
  rw [q1, q2] at FP
  have e2 : feeV p a r = a * p.F r.toNat / 10000 ∧ feeE p a r = 0 := by simp [feeV, feeE, hok, hr, q1, q2]
  have e3 : toV p g = p.T g.toNat ∧ toE p g = 0 := by simp [toV, toE, hok, hg]
  rw [e1.1, e1.2] at W1
  rw [e2.1, e2.2] at W2
  rw [e3.1, e3.2] at W3
  rw [hok] at RP
  clear e1 e2 e3 hm hr hg hok kr q1 q2
  generalize net a (p.S g.toNat) (p.F r.toNat) = x at *
  generalize a * p.F r.toNat / 10000 = y at *
  generalize p.F r.toNat = f at *
  generalize p.T g.toNat = tt at *
  go_enter Try.func9, Try.ntmps9
  go_wp2_with fail
  refine (awake09 _).mono ?_
  rintro e w1 ⟨rfl, hb1⟩
  have Hat1 := Lib.hid (Hat.out.below hb1)
  go_wp2_with (refine wpList_load_row rfl 42 _ rfl w.heap.size rfl 42 p.cells (0, 0) _ Hat1.out Try.underlying42 rfl HI.out ?_)
  refine (W1.out _).mono ?_
  rintro e w2 ⟨rfl, hb2⟩
  have Hat2 := Lib.hid (Hat1.out.below hb2)
  go_wp2_with (refine wpList_load_row rfl 42 _ rfl w.heap.size rfl 42 p.cells (0, 0) _ Hat2.out Try.underlying42 rfl HI.out ?_)
  refine (W2.out _).mono ?_
  rintro e w3 ⟨rfl, hb3⟩
  have Hat3 := Lib.hid (Hat2.out.below hb3)
  go_wp2_with (refine wpList_load_row rfl 42 _ rfl w.heap.size rfl 42 p.cells (0, 0) _ Hat3.out Try.underlying42 rfl HI.out ?_)
  refine (W3.out _).mono ?_
  rintro e w4 ⟨rfl, hb4⟩
  have Hat4 := Lib.hid (Hat3.out.below hb4)
  go_wp2_with (refine wpList_load_row rfl 42 _ rfl w.heap.size rfl 42 p.cells (0, 0) _ Hat4.out Try.underlying42 rfl HI.out ?_)
  refine (RP.out _).mono ?_
  rintro e w5 ⟨rfl, hb5⟩
  have Hat5 := Lib.hid (Hat4.out.below hb5)
  have z1 := hb1.size
  have z2 := hb2.size
  have z3 := hb3.size
  have z4 := hb4.size
  simp at z1
  have hfin : Below w.heap.size w w5 := ((((hb0.trans (below_le hb1 (by simp))).trans (below_le hb2 (by omega))).trans (below_le hb3 (by omega))).trans (below_le hb4 (by omega))).trans (below_le hb5 (by omega))
  have z5 : w.heap.size ≤ w5.heap.size := hfin.size
  clear z1 z2 z3 z4 hb1 hb2 hb3 hb4 hb5
  have ct := CT.out _ Hat5.out
  have cf := CF.out _ Hat5.out
  have hcs : ∀ j, w5.cell? ⟨w.heap.size, j, none⟩ = p.cells[j]? := fun j => by simp [World.cell?, show w5.heap[w.heap.size]? = _ from Hat5.out]
  have c0 : w5.cell? ⟨w.heap.size, 0, none⟩ = some (.int .i64 p.wd) := (hcs 0).trans rfl
  have c1 : w5.cell? ⟨w.heap.size, 1, none⟩ = some (.bool p.fi) := (hcs 1).trans rfl
  have c2 : w5.cell? ⟨w.heap.size, 2, none⟩ = some (.bool p.ex) := (hcs 2).trans rfl
  have c3 : w5.cell? ⟨w.heap.size, 3, none⟩ = some (.bool p.cr) := (hcs 3).trans rfl
  have c4 : w5.cell? ⟨w.heap.size, 4, none⟩ = some (.int .i64 p.f0) := (hcs 4).trans rfl
  have c5 : w5.cell? ⟨w.heap.size, 5, none⟩ = some (.int .i64 p.f1) := (hcs 5).trans rfl
  have c6 : w5.cell? ⟨w.heap.size, 6, none⟩ = some (.int .i64 p.f2) := (hcs 6).trans rfl
  have c7 : w5.cell? ⟨w.heap.size, 7, none⟩ = some (.int .i64 p.f3) := (hcs 7).trans rfl
  have c8 : w5.cell? ⟨w.heap.size, 8, none⟩ = some (.int .i64 p.s0) := (hcs 8).trans rfl
  have c9 : w5.cell? ⟨w.heap.size, 9, none⟩ = some (.int .i64 p.t0) := (hcs 9).trans rfl
  have c10 : w5.cell? ⟨w.heap.size, 10, none⟩ = some (.int .i64 p.s1) := (hcs 10).trans rfl
  have c11 : w5.cell? ⟨w.heap.size, 11, none⟩ = some (.int .i64 p.t1) := (hcs 11).trans rfl
  have c12 : w5.cell? ⟨w.heap.size, 12, none⟩ = some (.int .i64 p.s2) := (hcs 12).trans rfl
  have c13 : w5.cell? ⟨w.heap.size, 13, none⟩ = some (.int .i64 p.t2) := (hcs 13).trans rfl
  have c14 : w5.cell? ⟨w.heap.size, 14, none⟩ = some (.int .i64 p.s3) := (hcs 14).trans rfl
  have c15 : w5.cell? ⟨w.heap.size, 15, none⟩ = some (.int .i64 p.t3) := (hcs 15).trans rfl
  clear hcs
  go_wp2_with (go_at_call 17; refine (FP.out _).mono ?_; rintro e w' ⟨rfl, rfl⟩)
  refine (RW.out _).mono ?_
  rintro e w6 ⟨rfl, hb6⟩
  go_wp2_with fail
  go_ret
  exact ⟨by simp, hfin.trans (below_le hb6 z5)⟩

theorem k_cases (r : Int) : r < 0 ∨ 4 ≤ r ∨ isK r = true := by
  by_cases h1 : r < 0
  · exact .inl h1
  · by_cases h2 : r < 4
    · exact .inr (.inr (isK_iff.2 ⟨by omega, h2⟩))
    · exact .inr (.inl (by omega))

theorem worth_law (p : Pol) (a r g : Int) (w : World) : Calls Try.prog 9 #[.agg p.cells, .int .i64 a, .int .i64 r, .int .i64 g] w fun e w' => e = .returned (.bool true) ∧ Below w.heap.size w w' := by
  cases hok : p.ok
  · rcases k_cases r with hr | hr | hr <;> rcases k_cases g with hg | hg | hg
    · exact worth0_lo_lo p a r g w hok hr hg
    · exact worth0_lo_hi p a r g w hok hr hg
    · exact worth0_lo_in p a r g w hok hr hg
    · exact worth0_hi_lo p a r g w hok hr hg
    · exact worth0_hi_hi p a r g w hok hr hg
    · exact worth0_hi_in p a r g w hok hr hg
    · exact worth0_in_lo p a r g w hok hr hg
    · exact worth0_in_hi p a r g w hok hr hg
    · exact worth0_in_in p a r g w hok hr hg
  · have hm : a < 0 ∨ 1125899906842624 < a ∨ monB a = true := by
      by_cases h1 : a < 0
      · exact .inl h1
      · by_cases h2 : a ≤ 1125899906842624
        · exact .inr (.inr (monB_iff.2 ⟨by omega, h2⟩))
        · exact .inr (.inl (by omega))
    rcases k_cases r with hr | hr | hr <;> rcases k_cases g with hg | hg | hg <;> rcases hm with hm | hm | hm
    · exact worth_lo_lo_lo p a r g w hok hr hg hm
    · exact worth_lo_lo_hi p a r g w hok hr hg hm
    · exact worth_lo_lo_ok p a r g w hok hr hg hm
    · exact worth_lo_hi_lo p a r g w hok hr hg hm
    · exact worth_lo_hi_hi p a r g w hok hr hg hm
    · exact worth_lo_hi_ok p a r g w hok hr hg hm
    · exact worth_lo_in_lo p a r g w hok hr hg hm
    · exact worth_lo_in_hi p a r g w hok hr hg hm
    · exact worth_lo_in_ok p a r g w hok hr hg hm
    · exact worth_hi_lo_lo p a r g w hok hr hg hm
    · exact worth_hi_lo_hi p a r g w hok hr hg hm
    · exact worth_hi_lo_ok p a r g w hok hr hg hm
    · exact worth_hi_hi_lo p a r g w hok hr hg hm
    · exact worth_hi_hi_hi p a r g w hok hr hg hm
    · exact worth_hi_hi_ok p a r g w hok hr hg hm
    · exact worth_hi_in_lo p a r g w hok hr hg hm
    · exact worth_hi_in_hi p a r g w hok hr hg hm
    · exact worth_hi_in_ok p a r g w hok hr hg hm
    · exact worth_in_lo_lo p a r g w hok hr hg hm
    · exact worth_in_lo_hi p a r g w hok hr hg hm
    · exact worth_in_lo_ok p a r g w hok hr hg hm
    · exact worth_in_hi_lo p a r g w hok hr hg hm
    · exact worth_in_hi_hi p a r g w hok hr hg hm
    · exact worth_in_hi_ok p a r g w hok hr hg hm
    · exact worth_in_in_lo p a r g w hok hr hg hm
    · exact worth_in_in_hi p a r g w hok hr hg hm
    · exact worth_in_in_ok p a r g w hok hr hg hm

end Go.Proofs.Yteeiiahmhmbepaa.Led
