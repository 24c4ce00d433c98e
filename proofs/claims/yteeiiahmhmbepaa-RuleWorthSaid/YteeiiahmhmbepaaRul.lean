/- Contracts of the rules: basis points, grades, policies: what is right; every policy. -/
import Derived.Test.YteeiiahmhmbepaaCen
import Derived.LoopTactic
import Derived.LoopN
set_option linter.unusedVariables false
namespace Go.Proofs.Yteeiiahmhmbepaa.Led
open Go.RowKit

def ptB (n : Int) : Bool := decide (0 ≤ n) && decide (n ≤ 10000)
theorem ptB_iff {n : Int} : ptB n = true ↔ 0 ≤ n ∧ n ≤ 10000 := by
  unfold ptB
  rw [Bool.and_eq_true, decide_eq_true_eq, decide_eq_true_eq]
theorem points56 (n : Int) (w : World) : Calls Try.prog 56 #[.int .i64 n] w fun e w' => e = .returned (.bool (ptB n)) ∧ w = w' := by
  by_cases h1 : 0 ≤ n
  · by_cases h2 : n ≤ 10000
    all_goals
      go_enter Try.func56, Try.ntmps56
      go_wp2
      go_ret
      exact ⟨by simp [ptB, *], rfl⟩
  · go_enter Try.func56, Try.ntmps56
    go_wp2
    go_ret
    exact ⟨by simp [ptB]; omega, rfl⟩
theorem points46 (n : Int) (w : World) : Calls Try.prog 46 #[.int .i64 n] w fun e w' => e = .returned (.bool (ptB n)) ∧ w = w' := by
  by_cases h1 : 0 ≤ n
  · by_cases h2 : n ≤ 10000
    all_goals
      go_enter Try.func46, Try.ntmps46
      go_wp2
      go_ret
      exact ⟨by simp [ptB, *], rfl⟩
  · go_enter Try.func46, Try.ntmps46
    go_wp2
    go_ret
    exact ⟨by simp [ptB]; omega, rfl⟩

/-- A grade: its share, and where the unit goes. -/
def grB (s t : Int) : Bool := ptB s && ((t == 0 && s == 0) || (decide (3 ≤ t) && decide (t ≤ 5)))
theorem grade_any (s t : Int) (w : World) : Calls Try.prog 57 #[.agg #[.int .i64 s, .int .i64 t]] w fun e w' => e = .returned (.bool (grB s t)) ∧ Below w.heap.size w w' := by
  cases hs : ptB s
  · go_enter Try.func57, Try.ntmps57
    go_wp2_with (go_at_call 56; refine (points56 _ _).mono ?_; rintro e w' ⟨rfl, rfl⟩)
    go_ret
    exact ⟨by simp [grB, hs], (Below.refl _ _).alloc (Nat.le_refl _) _⟩
  · by_cases t0 : t = 0
    · subst t0
      by_cases s0 : s = 0
      · subst s0
        go_enter Try.func57, Try.ntmps57
        go_wp2_with (go_at_call 56; refine (points56 _ _).mono ?_; rintro e w' ⟨rfl, rfl⟩)
        go_ret
        exact ⟨by simp [grB, hs], (Below.refl _ _).alloc (Nat.le_refl _) _⟩
      · have s1 : (s == 0) = false := by simp [s0]
        go_enter Try.func57, Try.ntmps57
        go_wp2_with (go_at_call 56; refine (points56 _ _).mono ?_; rintro e w' ⟨rfl, rfl⟩)
        go_ret
        exact ⟨by simp [grB, hs, s0], (Below.refl _ _).alloc (Nat.le_refl _) _⟩
    · have t1 : (t == 0) = false := by simp [t0]
      by_cases t3 : 3 ≤ t
      · by_cases t5 : t ≤ 5
        all_goals
          go_enter Try.func57, Try.ntmps57
          go_wp2_with (go_at_call 56; refine (points56 _ _).mono ?_; rintro e w' ⟨rfl, rfl⟩)
          go_ret
          exact ⟨by simp [grB, hs, t0, t3, t5], (Below.refl _ _).alloc (Nat.le_refl _) _⟩
      · go_enter Try.func57, Try.ntmps57
        go_wp2_with (go_at_call 56; refine (points56 _ _).mono ?_; rintro e w' ⟨rfl, rfl⟩)
        go_ret
        exact ⟨by simp [grB, hs, t0]; omega, (Below.refl _ _).alloc (Nat.le_refl _) _⟩

def fB (f0 f1 f2 f3 : Int) : Bool := ptB f0 && ptB f1 && ptB f2 && ptB f3
def gB (s0 t0 s1 t1 s2 t2 s3 t3 : Int) : Bool := grB s0 t0 && grB s1 t1 && grB s2 t2 && grB s3 t3
def winB (n : Int) : Bool := decide (0 ≤ n) && decide (n ≤ 1000)

def polB (wd f0 f1 f2 f3 s0 t0 s1 t1 s2 t2 s3 t3 : Int) : Bool := fB f0 f1 f2 f3 && (gB s0 t0 s1 t1 s2 t2 s3 t3 && winB wd)

set_option maxHeartbeats 2000000 in
theorem tright_any (wd f0 f1 f2 f3 s0 t0 s1 t1 s2 t2 s3 t3 : Int) (fi ex cr : Bool) (w : World) :
    Calls Try.prog 54 #[.agg #[.int .i64 wd, .bool fi, .bool ex, .bool cr, .int .i64 f0, .int .i64 f1, .int .i64 f2, .int .i64 f3, .int .i64 s0, .int .i64 t0, .int .i64 s1, .int .i64 t1, .int .i64 s2, .int .i64 t2, .int .i64 s3, .int .i64 t3]] w
      fun e w' => e = .returned (.bool (polB wd f0 f1 f2 f3 s0 t0 s1 t1 s2 t2 s3 t3)) ∧ Below w.heap.size w w' := by
  have i0 : ∀ w, (Instr.index 37 (.agg #[.int .i64 f0, .int .i64 f1, .int .i64 f2, .int .i64 f3]) (.int .i64 0)).run Try.prog w = .ok (.int .i64 f0) w := fun _ => by kernel_rfl
  have i1 : ∀ w, (Instr.index 37 (.agg #[.int .i64 f0, .int .i64 f1, .int .i64 f2, .int .i64 f3]) (.int .i64 1)).run Try.prog w = .ok (.int .i64 f1) w := fun _ => by kernel_rfl
  have i2 : ∀ w, (Instr.index 37 (.agg #[.int .i64 f0, .int .i64 f1, .int .i64 f2, .int .i64 f3]) (.int .i64 2)).run Try.prog w = .ok (.int .i64 f2) w := fun _ => by kernel_rfl
  have i3 : ∀ w, (Instr.index 37 (.agg #[.int .i64 f0, .int .i64 f1, .int .i64 f2, .int .i64 f3]) (.int .i64 3)).run Try.prog w = .ok (.int .i64 f3) w := fun _ => by kernel_rfl
  go_enter Try.func54, Try.ntmps54
  go_wp2
  go_loop [9] (fun i => ∃ k : Nat, k ≤ 4 ∧ i = .int .i64 k ∧ Hid (∀ j, j < k → ptB ([f0, f1, f2, f3].getD j 0) = true)) (fun i => 4 - (intOf i).toNat)
  case atStart => exact ⟨0, by omega, rfl, Lib.hid (fun j hj => absurd hj (by omega))⟩
  case round =>
    obtain ⟨k, hk, rfl, hR⟩ := hrel
    have hk' : k = 0 ∨ k = 1 ∨ k = 2 ∨ k = 3 ∨ k = 4 := by omega
    rcases hk' with rfl | rfl | rfl | rfl | rfl
    · cases h : ptB f0
      · go_wp2_with (go_at_call 56; refine (points56 _ _).mono ?_; rintro e w' ⟨rfl, rfl⟩)
        go_ret
        exact ⟨by simp [polB, fB, h], (Below.refl _ _).alloc (Nat.le_refl _) _⟩
      · go_wp2_with (go_at_call 56; refine (points56 _ _).mono ?_; rintro e w' ⟨rfl, rfl⟩)
        go_round
        case rel => exact ⟨1, by omega, rfl, Lib.hid (fun j hj => by obtain rfl : j = 0 := (by omega); exact h)⟩
        case measure => simp [intOf]
    · cases h : ptB f1
      · go_wp2_with (go_at_call 56; refine (points56 _ _).mono ?_; rintro e w' ⟨rfl, rfl⟩)
        go_ret
        exact ⟨by simp [polB, fB, h], (Below.refl _ _).alloc (Nat.le_refl _) _⟩
      · go_wp2_with (go_at_call 56; refine (points56 _ _).mono ?_; rintro e w' ⟨rfl, rfl⟩)
        go_round
        case rel => exact ⟨2, by omega, rfl, Lib.hid (fun j hj => by rcases (show j < 1 ∨ j = 1 by omega) with hj | rfl; exact hR.out j hj; exact h)⟩
        case measure => simp [intOf]
    · cases h : ptB f2
      · go_wp2_with (go_at_call 56; refine (points56 _ _).mono ?_; rintro e w' ⟨rfl, rfl⟩)
        go_ret
        exact ⟨by simp [polB, fB, h], (Below.refl _ _).alloc (Nat.le_refl _) _⟩
      · go_wp2_with (go_at_call 56; refine (points56 _ _).mono ?_; rintro e w' ⟨rfl, rfl⟩)
        go_round
        case rel => exact ⟨3, by omega, rfl, Lib.hid (fun j hj => by rcases (show j < 2 ∨ j = 2 by omega) with hj | rfl; exact hR.out j hj; exact h)⟩
        case measure => simp [intOf]
    · cases h : ptB f3
      · go_wp2_with (go_at_call 56; refine (points56 _ _).mono ?_; rintro e w' ⟨rfl, rfl⟩)
        go_ret
        exact ⟨by simp [polB, fB, h], (Below.refl _ _).alloc (Nat.le_refl _) _⟩
      · go_wp2_with (go_at_call 56; refine (points56 _ _).mono ?_; rintro e w' ⟨rfl, rfl⟩)
        go_round
        case rel => exact ⟨4, by omega, rfl, Lib.hid (fun j hj => by rcases (show j < 3 ∨ j = 3 by omega) with hj | rfl; exact hR.out j hj; exact h)⟩
        case measure => simp [intOf]
    · have hF : fB f0 f1 f2 f3 = true := by
        have r0 := hR.out 0 (by omega)
        have r1 := hR.out 1 (by omega)
        have r2 := hR.out 2 (by omega)
        have r3 := hR.out 3 (by omega)
        simp only [List.getD_cons_zero, List.getD_cons_succ] at r0 r1 r2 r3
        simp [fB, r0, r1, r2, r3]
      have HF := Lib.hid hF
      clear hF hR i0 i1 i2 i3
      have g0 : ∀ w, (Instr.index 40 (.agg #[.int .i64 s0, .int .i64 t0, .int .i64 s1, .int .i64 t1, .int .i64 s2, .int .i64 t2, .int .i64 s3, .int .i64 t3]) (.int .i64 0)).run Try.prog w = .ok (.agg #[.int .i64 s0, .int .i64 t0]) w := fun _ => by kernel_rfl
      have g1 : ∀ w, (Instr.index 40 (.agg #[.int .i64 s0, .int .i64 t0, .int .i64 s1, .int .i64 t1, .int .i64 s2, .int .i64 t2, .int .i64 s3, .int .i64 t3]) (.int .i64 1)).run Try.prog w = .ok (.agg #[.int .i64 s1, .int .i64 t1]) w := fun _ => by kernel_rfl
      have g2 : ∀ w, (Instr.index 40 (.agg #[.int .i64 s0, .int .i64 t0, .int .i64 s1, .int .i64 t1, .int .i64 s2, .int .i64 t2, .int .i64 s3, .int .i64 t3]) (.int .i64 2)).run Try.prog w = .ok (.agg #[.int .i64 s2, .int .i64 t2]) w := fun _ => by kernel_rfl
      have g3 : ∀ w, (Instr.index 40 (.agg #[.int .i64 s0, .int .i64 t0, .int .i64 s1, .int .i64 t1, .int .i64 s2, .int .i64 t2, .int .i64 s3, .int .i64 t3]) (.int .i64 3)).run Try.prog w = .ok (.agg #[.int .i64 s3, .int .i64 t3]) w := fun _ => by kernel_rfl
      go_wp2
      have c0 : (w.alloc (.cells #[.int .i64 wd, .bool fi, .bool ex, .bool cr, .int .i64 f0, .int .i64 f1, .int .i64 f2, .int .i64 f3, .int .i64 s0, .int .i64 t0, .int .i64 s1, .int .i64 t1, .int .i64 s2, .int .i64 t2, .int .i64 s3, .int .i64 t3] 42)).cell? ⟨w.heap.size, 0, none⟩ = some (.int .i64 wd) := by simp
      have hb : Below w.heap.size w (w.alloc (.cells #[.int .i64 wd, .bool fi, .bool ex, .bool cr, .int .i64 f0, .int .i64 f1, .int .i64 f2, .int .i64 f3, .int .i64 s0, .int .i64 t0, .int .i64 s1, .int .i64 t1, .int .i64 s2, .int .i64 t2, .int .i64 s3, .int .i64 t3] 42)) := (Below.refl _ _).alloc (Nat.le_refl _) _
      have hz : w.heap.size < (w.alloc (.cells #[.int .i64 wd, .bool fi, .bool ex, .bool cr, .int .i64 f0, .int .i64 f1, .int .i64 f2, .int .i64 f3, .int .i64 s0, .int .i64 t0, .int .i64 s1, .int .i64 t1, .int .i64 s2, .int .i64 t2, .int .i64 s3, .int .i64 t3] 42)).heap.size := by simp
      generalize w.alloc (.cells #[.int .i64 wd, .bool fi, .bool ex, .bool cr, .int .i64 f0, .int .i64 f1, .int .i64 f2, .int .i64 f3, .int .i64 s0, .int .i64 t0, .int .i64 s1, .int .i64 t1, .int .i64 s2, .int .i64 t2, .int .i64 s3, .int .i64 t3] 42) = W1 at *
      go_loopw [18] (fun i wr => ∃ k : Nat, k ≤ 4 ∧ i = .int .i64 k ∧ Hid (∀ j, j < k → grB ([s0, s1, s2, s3].getD j 0) ([t0, t1, t2, t3].getD j 0) = true) ∧ Below W1.heap.size W1 wr) (fun i _ => 4 - (intOf i).toNat)
      case atStart => exact ⟨0, by omega, rfl, Lib.hid (fun j hj => absurd hj (by omega)), Below.refl _ _⟩
      case round =>
        obtain ⟨k, hk, rfl, hR, hbr⟩ := hrel
        have hk' : k = 0 ∨ k = 1 ∨ k = 2 ∨ k = 3 ∨ k = 4 := by omega
        rcases hk' with rfl | rfl | rfl | rfl | rfl
        · cases h : grB s0 t0
          · go_wp2_with fail
            refine (grade_any _ _ _).mono ?_
            rintro e w2 ⟨rfl, hb2⟩
            go_wp2_with fail
            go_ret
            exact ⟨by simp [polB, gB, h], (hb.trans (below_le hbr (by omega))).trans ((Below.refl _ _).alloc (by have := hbr.size; omega) _ |>.trans (below_le hb2 (by have := hbr.size; simp; omega)))⟩
          · go_wp2_with fail
            refine (grade_any _ _ _).mono ?_
            rintro e w2 ⟨rfl, hb2⟩
            go_wp2_with fail
            go_roundw
            case rel => exact ⟨1, by omega, rfl, Lib.hid (fun j hj => by obtain rfl : j = 0 := (by omega); exact h), hbr.trans ((Below.refl _ _).alloc (by have := hbr.size; omega) _ |>.trans (below_le hb2 (by have := hbr.size; simp; omega)))⟩
            case measure => simp [intOf]
        · cases h : grB s1 t1
          · go_wp2_with fail
            refine (grade_any _ _ _).mono ?_
            rintro e w2 ⟨rfl, hb2⟩
            go_wp2_with fail
            go_ret
            exact ⟨by simp [polB, gB, h], (hb.trans (below_le hbr (by omega))).trans ((Below.refl _ _).alloc (by have := hbr.size; omega) _ |>.trans (below_le hb2 (by have := hbr.size; simp; omega)))⟩
          · go_wp2_with fail
            refine (grade_any _ _ _).mono ?_
            rintro e w2 ⟨rfl, hb2⟩
            go_wp2_with fail
            go_roundw
            case rel => exact ⟨2, by omega, rfl, Lib.hid (fun j hj => by rcases (show j < 1 ∨ j = 1 by omega) with hj | rfl; exact hR.out j hj; exact h), hbr.trans ((Below.refl _ _).alloc (by have := hbr.size; omega) _ |>.trans (below_le hb2 (by have := hbr.size; simp; omega)))⟩
            case measure => simp [intOf]
        · cases h : grB s2 t2
          · go_wp2_with fail
            refine (grade_any _ _ _).mono ?_
            rintro e w2 ⟨rfl, hb2⟩
            go_wp2_with fail
            go_ret
            exact ⟨by simp [polB, gB, h], (hb.trans (below_le hbr (by omega))).trans ((Below.refl _ _).alloc (by have := hbr.size; omega) _ |>.trans (below_le hb2 (by have := hbr.size; simp; omega)))⟩
          · go_wp2_with fail
            refine (grade_any _ _ _).mono ?_
            rintro e w2 ⟨rfl, hb2⟩
            go_wp2_with fail
            go_roundw
            case rel => exact ⟨3, by omega, rfl, Lib.hid (fun j hj => by rcases (show j < 2 ∨ j = 2 by omega) with hj | rfl; exact hR.out j hj; exact h), hbr.trans ((Below.refl _ _).alloc (by have := hbr.size; omega) _ |>.trans (below_le hb2 (by have := hbr.size; simp; omega)))⟩
            case measure => simp [intOf]
        · cases h : grB s3 t3
          · go_wp2_with fail
            refine (grade_any _ _ _).mono ?_
            rintro e w2 ⟨rfl, hb2⟩
            go_wp2_with fail
            go_ret
            exact ⟨by simp [polB, gB, h], (hb.trans (below_le hbr (by omega))).trans ((Below.refl _ _).alloc (by have := hbr.size; omega) _ |>.trans (below_le hb2 (by have := hbr.size; simp; omega)))⟩
          · go_wp2_with fail
            refine (grade_any _ _ _).mono ?_
            rintro e w2 ⟨rfl, hb2⟩
            go_wp2_with fail
            go_roundw
            case rel => exact ⟨4, by omega, rfl, Lib.hid (fun j hj => by rcases (show j < 3 ∨ j = 3 by omega) with hj | rfl; exact hR.out j hj; exact h), hbr.trans ((Below.refl _ _).alloc (by have := hbr.size; omega) _ |>.trans (below_le hb2 (by have := hbr.size; simp; omega)))⟩
            case measure => simp [intOf]
        · have hG : gB s0 t0 s1 t1 s2 t2 s3 t3 = true := by
            have r0 := hR.out 0 (by omega)
            have r1 := hR.out 1 (by omega)
            have r2 := hR.out 2 (by omega)
            have r3 := hR.out 3 (by omega)
            simp only [List.getD_cons_zero, List.getD_cons_succ] at r0 r1 r2 r3
            simp [gB, r0, r1, r2, r3]
          have HG := Lib.hid hG
          clear hG hR g0 g1 g2 g3
          have c1 : wr.cell? ⟨w.heap.size, 0, none⟩ = some (.int .i64 wd) := (hbr.cell (p := ⟨w.heap.size, 0, none⟩) hz).trans c0
          by_cases w0 : 0 ≤ wd
          · by_cases w1 : wd ≤ 1000
            all_goals
              go_wp2_with fail
              go_ret
              exact ⟨by simp [polB, HF.out, HG.out, winB, w0, w1], hb.trans (below_le hbr (by omega))⟩
          · go_wp2_with fail
            go_ret
            exact ⟨by simp [polB, HF.out, HG.out, winB]; omega, hb.trans (below_le hbr (by omega))⟩

end Go.Proofs.Yteeiiahmhmbepaa.Led
