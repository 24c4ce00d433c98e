/- A policy as one array of cells that the walk does not look into: rule.Fee, rule.To, rule.Worth and the reference's Worth; every policy. -/
import Derived.Test.YteeiiahmhmbepaaRulM
import Derived.Test.YteeiiahmhmbepaaCenP
import Derived.Laws.Rows
set_option linter.unusedVariables false
namespace Go.Proofs.Yteeiiahmhmbepaa.Led
open Go.RowKit

theorem below_dr (B : Nat) (w : World) (n : Nat) : Below B w (w.drewN n) := ⟨rfl, rfl, rfl, Nat.le_refl _, fun _ _ => rfl⟩

structure Pol where
  wd : Int
  fi : Bool
  ex : Bool
  cr : Bool
  f0 : Int
  f1 : Int
  f2 : Int
  f3 : Int
  s0 : Int
  t0 : Int
  s1 : Int
  t1 : Int
  s2 : Int
  t2 : Int
  s3 : Int
  t3 : Int

namespace Pol
def cells (p : Pol) : Array Value := #[.int .i64 p.wd, .bool p.fi, .bool p.ex, .bool p.cr, .int .i64 p.f0, .int .i64 p.f1, .int .i64 p.f2, .int .i64 p.f3, .int .i64 p.s0, .int .i64 p.t0, .int .i64 p.s1, .int .i64 p.t1, .int .i64 p.s2, .int .i64 p.t2, .int .i64 p.s3, .int .i64 p.t3]
def F (p : Pol) (k : Nat) : Int := [p.f0, p.f1, p.f2, p.f3].getD k 0
def S (p : Pol) (k : Nat) : Int := [p.s0, p.s1, p.s2, p.s3].getD k 0
def T (p : Pol) (k : Nat) : Int := [p.t0, p.t1, p.t2, p.t3].getD k 0
def ok (p : Pol) : Bool := polB p.wd p.f0 p.f1 p.f2 p.f3 p.s0 p.t0 p.s1 p.t1 p.s2 p.t2 p.s3 p.t3
theorem size (p : Pol) : p.cells.size = 16 := rfl
theorem atF (p : Pol) (k : Nat) (hk : k < 4) : p.cells[4 + k]? = some (.int .i64 (p.F k)) := by
  have h : k = 0 ∨ k = 1 ∨ k = 2 ∨ k = 3 := by omega
  rcases h with rfl | rfl | rfl | rfl <;> rfl
theorem atS (p : Pol) (k : Nat) (hk : k < 4) : p.cells[8 + k * 2]? = some (.int .i64 (p.S k)) := by
  have h : k = 0 ∨ k = 1 ∨ k = 2 ∨ k = 3 := by omega
  rcases h with rfl | rfl | rfl | rfl <;> rfl
theorem atT (p : Pol) (k : Nat) (hk : k < 4) : p.cells[8 + k * 2 + 1]? = some (.int .i64 (p.T k)) := by
  have h : k = 0 ∨ k = 1 ∨ k = 2 ∨ k = 3 := by omega
  rcases h with rfl | rfl | rfl | rfl <;> rfl
theorem ok_at {p : Pol} (h : p.ok = true) (k : Nat) (hk : k < 4) : ptB (p.F k) = true ∧ grB (p.S k) (p.T k) = true := by
  unfold ok polB fB gB at h
  simp only [Bool.and_eq_true] at h
  obtain ⟨⟨⟨⟨a0, a1⟩, a2⟩, a3⟩, ⟨⟨⟨b0, b1⟩, b2⟩, b3⟩, _⟩ := h
  have h : k = 0 ∨ k = 1 ∨ k = 2 ∨ k = 3 := by omega
  rcases h with rfl | rfl | rfl | rfl
  · exact ⟨a0, b0⟩
  · exact ⟨a1, b1⟩
  · exact ⟨a2, b2⟩
  · exact ⟨a3, b3⟩
/-- A policy's block. -/
def At (p : Pol) (w : World) (b : Nat) : Prop := w.heap[b]? = some (.cells p.cells 42 (0, 0))
theorem At.alloc (p : Pol) (w : World) : p.At (w.alloc (.cells p.cells 42)) w.heap.size := heap_alloc_new _ _
theorem At.lt {p : Pol} {w : World} {b : Nat} (h : p.At w b) : b < w.heap.size := (Array.getElem?_eq_some_iff.1 h).1
theorem At.below {p : Pol} {w w1 : World} {b : Nat} (h : p.At w b) (hb : Below w.heap.size w w1) : p.At w1 b := (hb.block b h.lt).trans h
theorem At.fee {p : Pol} {w : World} {b : Nat} (h : p.At w b) (k : Nat) (hk : k < 4) : w.cell? ⟨b, 4 + k, none⟩ = some (.int .i64 (p.F k)) := by simp [World.cell?, show w.heap[b]? = _ from h, p.atF k hk]
theorem At.share {p : Pol} {w : World} {b : Nat} (h : p.At w b) (k : Nat) (hk : k < 4) : w.cell? ⟨b, 8 + k * 2, none⟩ = some (.int .i64 (p.S k)) := by simp [World.cell?, show w.heap[b]? = _ from h, p.atS k hk]
theorem At.to {p : Pol} {w : World} {b : Nat} (h : p.At w b) (k : Nat) (hk : k < 4) : w.cell? ⟨b, 8 + k * 2 + 1, none⟩ = some (.int .i64 (p.T k)) := by simp [World.cell?, show w.heap[b]? = _ from h, p.atT k hk]
end Pol

theorem info42 : (Try.prog.info? 42).map (·.size) = some 16 := by kernel_rfl
theorem pol_info (p : Pol) : (Try.prog.info? 42).map (·.size) = some p.cells.size := info42

theorem right_pol (p : Pol) (w : World) : Calls Try.prog 44 #[.agg p.cells] w fun e w' => e = .returned (.bool p.ok) ∧ Below w.heap.size w w' :=
  ruleright_any p.wd p.f0 p.f1 p.f2 p.f3 p.s0 p.t0 p.s1 p.t1 p.s2 p.t2 p.s3 p.t3 p.fi p.ex p.cr w
theorem ref_pol (p : Pol) (w : World) : Calls Try.prog 33 #[.agg p.cells] w fun e w' => e = .returned (.bool p.ok) ∧ Below w.heap.size w w' :=
  refpol_any p.wd p.f0 p.f1 p.f2 p.f3 p.s0 p.t0 p.s1 p.t1 p.s2 p.t2 p.s3 p.t3 p.fi p.ex p.cr w

def isK (n : Int) : Bool := decide (0 ≤ n) && decide (n < 4)
theorem isK_iff {n : Int} : isK n = true ↔ 0 ≤ n ∧ n < 4 := by simp [isK]
theorem is_k (n : Int) (w : World) : Calls Try.prog 45 #[.int .i64 n] w fun e w' => e = .returned (.bool (isK n)) ∧ w = w' := by
  by_cases h1 : 0 ≤ n
  · by_cases h2 : n < 4
    all_goals
      go_enter Try.func45, Try.ntmps45
      go_wp2
      go_ret
      refine ⟨by simp [isK, *], rfl⟩
  · go_enter Try.func45, Try.ntmps45
    go_wp2
    go_ret
    refine ⟨by simp [isK]; omega, rfl⟩

def feeV (p : Pol) (sum r : Int) : Int := if p.ok = true then (if isK r = true then partV sum (p.F r.toNat) 10000 else 0) else 0
def feeE (p : Pol) (sum r : Int) : Int := if p.ok = true then (if isK r = true then partE sum (p.F r.toNat) 10000 else 1) else 10

theorem fee_any (p : Pol) (sum r : Int) (w : World) : Calls Try.prog 31 #[.agg p.cells, .int .i64 sum, .int .i64 r] w fun e w' => e = .returned (.tuple #[.int .i64 (feeV p sum r), .int .i64 (feeE p sum r)]) ∧ Below w.heap.size w w' := by
  have Hat := Lib.hid (Pol.At.alloc p w)
  have HI := Lib.hid (pol_info p)
  have R := Lib.hid (right_pol p)
  have hb0 : Below w.heap.size w (w.alloc (.cells p.cells 42)) := (Below.refl _ _).alloc (Nat.le_refl _) _
  cases hok : p.ok
  · have e1 : feeV p sum r = 0 := by simp [feeV, hok]
    have e2 : feeE p sum r = 10 := by simp [feeE, hok]
    rw [e1, e2]
    rw [hok] at R
    clear e1 e2
    go_enter Try.func31, Try.ntmps31
    go_wp2_with (refine wpList_load_row rfl 42 _ rfl w.heap.size rfl 42 p.cells (0, 0) _ Hat.out Try.underlying42 rfl HI.out ?_)
    refine (R.out _).mono ?_
    rintro e w2 ⟨rfl, hb2⟩
    go_wp2_with fail
    go_ret2
    exact ⟨by simp, hb0.trans (below_le hb2 (by simp))⟩
  · rw [hok] at R
    cases hr : isK r
    · have e1 : feeV p sum r = 0 := by simp [feeV, hr]
      have e2 : feeE p sum r = 1 := by simp [feeE, hok, hr]
      rw [e1, e2]
      clear e1 e2
      go_enter Try.func31, Try.ntmps31
      go_wp2_with (refine wpList_load_row rfl 42 _ rfl w.heap.size rfl 42 p.cells (0, 0) _ Hat.out Try.underlying42 rfl HI.out ?_)
      refine (R.out _).mono ?_
      rintro e w2 ⟨rfl, hb2⟩
      go_wp2_with fail
      refine (is_k _ _).mono ?_
      rintro e w' ⟨rfl, rfl⟩
      go_wp2_with fail
      go_ret2
      exact ⟨by simp, hb0.trans (below_le hb2 (by simp))⟩
    · obtain ⟨r0, r4⟩ := isK_iff.1 hr
      have e1 : feeV p sum r = partV sum (p.F r.toNat) 10000 := by simp [feeV, hok, hr]
      have e2 : feeE p sum r = partE sum (p.F r.toNat) 10000 := by simp [feeE, hok, hr]
      rw [e1, e2]
      have H := Lib.hid (points_any sum (p.F r.toNat))
      have C1 : Hid (∀ w2, p.At w2 w.heap.size → w2.cell? ⟨w.heap.size, 4 + r.toNat, none⟩ = some (.int .i64 (p.F r.toNat))) := Lib.hid (fun w2 h => h.fee r.toNat (by omega))
      clear e1 e2
      generalize p.F r.toNat = q at *
      generalize partV sum q 10000 = v at *
      generalize partE sum q 10000 = x at *
      go_enter Try.func31, Try.ntmps31
      go_wp2_with (refine wpList_load_row rfl 42 _ rfl w.heap.size rfl 42 p.cells (0, 0) _ Hat.out Try.underlying42 rfl HI.out ?_)
      refine (R.out _).mono ?_
      rintro e w2 ⟨rfl, hb2⟩
      have c1 := C1.out _ (Hat.out.below hb2)
      go_wp2_with fail
      refine (is_k _ _).mono ?_
      rintro e w' ⟨rfl, rfl⟩
      go_wp2_with fail
      refine (H.out _).mono ?_
      rintro e w3 ⟨rfl, nn, rfl⟩
      go_wp2_with fail
      go_ret2
      exact ⟨by simp, (hb0.trans (below_le hb2 (by simp))).trans (below_dr _ _ _)⟩

def toV (p : Pol) (g : Int) : Int := if p.ok = true then (if isK g = true then p.T g.toNat else 0) else 0
def toE (p : Pol) (g : Int) : Int := if p.ok = true then (if isK g = true then 0 else 1) else 10

theorem to_any (p : Pol) (g : Int) (w : World) : Calls Try.prog 32 #[.agg p.cells, .int .i64 g] w fun e w' => e = .returned (.tuple #[.int .i64 (toV p g), .int .i64 (toE p g)]) ∧ Below w.heap.size w w' := by
  have Hat := Lib.hid (Pol.At.alloc p w)
  have HI := Lib.hid (pol_info p)
  have R := Lib.hid (right_pol p)
  have hb0 : Below w.heap.size w (w.alloc (.cells p.cells 42)) := (Below.refl _ _).alloc (Nat.le_refl _) _
  cases hok : p.ok
  · have e1 : toV p g = 0 := by simp [toV, hok]
    have e2 : toE p g = 10 := by simp [toE, hok]
    rw [e1, e2]
    rw [hok] at R
    clear e1 e2
    go_enter Try.func32, Try.ntmps32
    go_wp2_with (refine wpList_load_row rfl 42 _ rfl w.heap.size rfl 42 p.cells (0, 0) _ Hat.out Try.underlying42 rfl HI.out ?_)
    refine (R.out _).mono ?_
    rintro e w2 ⟨rfl, hb2⟩
    go_wp2_with fail
    go_ret2
    exact ⟨by simp, hb0.trans (below_le hb2 (by simp))⟩
  · rw [hok] at R
    cases hr : isK g
    · have e1 : toV p g = 0 := by simp [toV, hr]
      have e2 : toE p g = 1 := by simp [toE, hok, hr]
      rw [e1, e2]
      clear e1 e2
      go_enter Try.func32, Try.ntmps32
      go_wp2_with (refine wpList_load_row rfl 42 _ rfl w.heap.size rfl 42 p.cells (0, 0) _ Hat.out Try.underlying42 rfl HI.out ?_)
      refine (R.out _).mono ?_
      rintro e w2 ⟨rfl, hb2⟩
      go_wp2_with fail
      refine (is_k _ _).mono ?_
      rintro e w' ⟨rfl, rfl⟩
      go_wp2_with fail
      go_ret2
      exact ⟨by simp, hb0.trans (below_le hb2 (by simp))⟩
    · obtain ⟨r0, r4⟩ := isK_iff.1 hr
      have e1 : toV p g = p.T g.toNat := by simp [toV, hok, hr]
      have e2 : toE p g = 0 := by simp [toE, hok, hr]
      rw [e1, e2]
      clear e1 e2
      have C1 : Hid (∀ w2, p.At w2 w.heap.size → w2.cell? ⟨w.heap.size, 8 + g.toNat * 2 + 1, none⟩ = some (.int .i64 (p.T g.toNat))) := Lib.hid (fun w2 h => h.to g.toNat (by omega))
      generalize p.T g.toNat = q at *
      go_enter Try.func32, Try.ntmps32
      go_wp2_with (refine wpList_load_row rfl 42 _ rfl w.heap.size rfl 42 p.cells (0, 0) _ Hat.out Try.underlying42 rfl HI.out ?_)
      refine (R.out _).mono ?_
      rintro e w2 ⟨rfl, hb2⟩
      have c1 := C1.out _ (Hat.out.below hb2)
      go_wp2_with fail
      refine (is_k _ _).mono ?_
      rintro e w' ⟨rfl, rfl⟩
      go_wp2_with fail
      go_ret2
      exact ⟨by simp, hb0.trans (below_le hb2 (by simp))⟩

/-- What a share is worth, less the fee. -/
def net (a s f : Int) : Int := a * s / 10000 - a * s / 10000 * f / 10000
def worthV (p : Pol) (a r g : Int) : Int := if p.ok = true then (if isK r = true ∧ isK g = true then (if monB a = true then net a (p.S g.toNat) (p.F r.toNat) else 0) else 0) else 0
def worthE (p : Pol) (a r g : Int) : Int := if p.ok = true then (if isK r = true ∧ isK g = true then (if monB a = true then 0 else 9) else 1) else 10

theorem part_of {a n : Int} (ha : monB a = true) (hn : ptB n = true) : partV a n 10000 = a * n / 10000 ∧ partE a n 10000 = 0 := by
  obtain ⟨n0, n1⟩ := ptB_iff.1 hn
  have hp : partB a n 10000 = true := partB_iff.2 ⟨by omega, n0, n1⟩
  exact ⟨by simp [partV, ha, hp], by simp [partE, ha, hp]⟩

theorem part_mon {a n : Int} (ha : monB a = true) (hn : ptB n = true) : monB (a * n / 10000) = true ∧ a * n / 10000 ≤ a := by
  obtain ⟨a0, a1⟩ := monB_iff.1 ha
  obtain ⟨n0, n1⟩ := ptB_iff.1 hn
  have h0 : 0 ≤ a * n := Int.mul_nonneg a0 n0
  have h1 : a * n ≤ a * 10000 := Int.mul_le_mul_of_nonneg_left n1 a0
  exact ⟨monB_iff.2 ⟨by omega, by omega⟩, by omega⟩

theorem worth_any (p : Pol) (a r g : Int) (w : World) : Calls Try.prog 30 #[.agg p.cells, .int .i64 a, .int .i64 r, .int .i64 g] w fun e w' => e = .returned (.tuple #[.int .i64 (worthV p a r g), .int .i64 (worthE p a r g)]) ∧ Below w.heap.size w w' := by
  have Hat := Lib.hid (Pol.At.alloc p w)
  have HI := Lib.hid (pol_info p)
  have R := Lib.hid (right_pol p)
  have hb0 : Below w.heap.size w (w.alloc (.cells p.cells 42)) := (Below.refl _ _).alloc (Nat.le_refl _) _
  cases hok : p.ok
  · have e1 : worthV p a r g = 0 := by simp [worthV, hok]
    have e2 : worthE p a r g = 10 := by simp [worthE, hok]
    rw [e1, e2]
    rw [hok] at R
    clear e1 e2
    go_enter Try.func30, Try.ntmps30
    go_wp2_with (refine wpList_load_row rfl 42 _ rfl w.heap.size rfl 42 p.cells (0, 0) _ Hat.out Try.underlying42 rfl HI.out ?_)
    refine (R.out _).mono ?_
    rintro e w2 ⟨rfl, hb2⟩
    go_wp2_with fail
    go_ret2
    exact ⟨by simp, hb0.trans (below_le hb2 (by simp))⟩
  · rw [hok] at R
    cases hr : isK r
    · have e1 : worthV p a r g = 0 := by simp [worthV, hr]
      have e2 : worthE p a r g = 1 := by simp [worthE, hok, hr]
      rw [e1, e2]
      clear e1 e2
      go_enter Try.func30, Try.ntmps30
      go_wp2_with (refine wpList_load_row rfl 42 _ rfl w.heap.size rfl 42 p.cells (0, 0) _ Hat.out Try.underlying42 rfl HI.out ?_)
      refine (R.out _).mono ?_
      rintro e w2 ⟨rfl, hb2⟩
      go_wp2_with (refine (is_k _ _).mono ?_; rintro e w' ⟨rfl, rfl⟩)
      go_ret2
      exact ⟨by simp, hb0.trans (below_le hb2 (by simp))⟩
    · cases hg : isK g
      · have e1 : worthV p a r g = 0 := by simp [worthV, hg]
        have e2 : worthE p a r g = 1 := by simp [worthE, hok, hg]
        rw [e1, e2]
        clear e1 e2
        go_enter Try.func30, Try.ntmps30
        go_wp2_with (refine wpList_load_row rfl 42 _ rfl w.heap.size rfl 42 p.cells (0, 0) _ Hat.out Try.underlying42 rfl HI.out ?_)
        refine (R.out _).mono ?_
        rintro e w2 ⟨rfl, hb2⟩
        go_wp2_with (refine (is_k _ _).mono ?_; rintro e w' ⟨rfl, rfl⟩)
        go_ret2
        exact ⟨by simp, hb0.trans (below_le hb2 (by simp))⟩
      · obtain ⟨r0, r4⟩ := isK_iff.1 hr
        obtain ⟨g0, g4⟩ := isK_iff.1 hg
        have kr := (Pol.ok_at hok r.toNat (by omega)).1
        have kg : ptB (p.S g.toNat) = true := by
          have := (Pol.ok_at hok g.toNat (by omega)).2
          simp only [grB, Bool.and_eq_true] at this
          exact this.1
        have H := Lib.hid (points_any a (p.S g.toNat))
        cases hm : monB a
        · have e1 : worthV p a r g = 0 := by simp [worthV, hm]
          have e2 : worthE p a r g = 9 := by simp [worthE, hok, hr, hg, hm]
          rw [e1, e2]
          have e3 : partV a (p.S g.toNat) 10000 = 0 := by simp [partV, hm]
          have e4 : partE a (p.S g.toNat) 10000 = 9 := by simp [partE, hm]
          rw [e3, e4] at H
          clear e1 e2 e3 e4 kr kg
          have C1 : Hid (∀ w2, p.At w2 w.heap.size → w2.cell? ⟨w.heap.size, 8 + g.toNat * 2, none⟩ = some (.int .i64 (p.S g.toNat))) := Lib.hid (fun w2 h => h.share g.toNat (by omega))
          generalize p.S g.toNat = q at *
          go_enter Try.func30, Try.ntmps30
          go_wp2_with (refine wpList_load_row rfl 42 _ rfl w.heap.size rfl 42 p.cells (0, 0) _ Hat.out Try.underlying42 rfl HI.out ?_)
          refine (R.out _).mono ?_
          rintro e w2 ⟨rfl, hb2⟩
          have c1 := C1.out _ (Hat.out.below hb2)
          go_wp2_with (first | (go_at_call 45; refine (is_k _ _).mono ?_; rintro e w' ⟨rfl, rfl⟩) | (go_at_call 18; refine (H.out _).mono ?_; rintro e w3 ⟨rfl, nn, rfl⟩))
          go_ret2
          exact ⟨by simp, (hb0.trans (below_le hb2 (by simp))).trans (below_dr _ _ _)⟩
        · have e1 : worthV p a r g = net a (p.S g.toNat) (p.F r.toNat) := by simp [worthV, hok, hr, hg, hm]
          have e2 : worthE p a r g = 0 := by simp [worthE, hok, hr, hg, hm]
          rw [e1, e2]
          obtain ⟨e3, e4⟩ := part_of hm kg
          obtain ⟨m1, m2⟩ := part_mon hm kg
          rw [e3, e4] at H
          obtain ⟨e5, e6⟩ := part_of m1 kr
          obtain ⟨m3, m4⟩ := part_mon m1 kr
          have e7 : feeV p (a * p.S g.toNat / 10000) r = a * p.S g.toNat / 10000 * p.F r.toNat / 10000 := by simp [feeV, hok, hr, e5]
          have e8 : feeE p (a * p.S g.toNat / 10000) r = 0 := by simp [feeE, hok, hr, e6]
          have G := Lib.hid (fee_any p (a * p.S g.toNat / 10000) r)
          rw [e7, e8] at G
          unfold net
          obtain ⟨n1, n2⟩ := monB_iff.1 m1
          obtain ⟨n3, n4⟩ := monB_iff.1 m3
          clear e1 e2 e3 e4 e5 e6 e7 e8 kr kg m1 m2 m3
          have C1 : Hid (∀ w2, p.At w2 w.heap.size → w2.cell? ⟨w.heap.size, 8 + g.toNat * 2, none⟩ = some (.int .i64 (p.S g.toNat))) := Lib.hid (fun w2 h => h.share g.toNat (by omega))
          generalize a * p.S g.toNat / 10000 * p.F r.toNat / 10000 = z at *
          generalize a * p.S g.toNat / 10000 = y at *
          generalize p.S g.toNat = q at *
          go_enter Try.func30, Try.ntmps30
          go_wp2_with (refine wpList_load_row rfl 42 _ rfl w.heap.size rfl 42 p.cells (0, 0) _ Hat.out Try.underlying42 rfl HI.out ?_)
          refine (R.out _).mono ?_
          rintro e w2 ⟨rfl, hb2⟩
          have c1 := C1.out _ (Hat.out.below hb2)
          have Hat2 := Lib.hid (Hat.out.below hb2)
          go_wp2_with (first | (go_at_call 45; refine (is_k _ _).mono ?_; rintro e w' ⟨rfl, rfl⟩) | (go_at_call 18; refine (H.out _).mono ?_; rintro e w3 ⟨rfl, nn, rfl⟩) | (refine wpList_load_row rfl 42 _ rfl w.heap.size rfl 42 p.cells (0, 0) _ Hat2.out Try.underlying42 rfl HI.out ?_))
          refine (G.out _).mono ?_
          rintro e w3 ⟨rfl, hb3⟩
          go_wp2_with fail
          go_ret2
          exact ⟨by simp, ((hb0.trans (below_le hb2 (by simp))).trans (below_dr _ _ _)).trans (below_le hb3 (by have := hb2.size; simp at this ⊢; omega))⟩

end Go.Proofs.Yteeiiahmhmbepaa.Led
