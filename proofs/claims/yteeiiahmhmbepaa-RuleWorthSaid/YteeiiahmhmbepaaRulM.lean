/- rule.May and recoupref05.May, walked: they tell the same; every policy. -/
import Derived.Test.YteeiiahmhmbepaaRulB
import Derived.Test.YteeiiahmhmbepaaRulC
set_option linter.unusedVariables false
set_option linter.unusedSimpArgs false
namespace Go.Proofs.Yteeiiahmhmbepaa.Led
open Go.RowKit

def mayE (pol : Bool) (wd : Int) (fi ex wants : Bool) (days : Int) : Int :=
  if pol = false then 10 else if (fi || (ex && !wants)) = true then 12 else if days < 0 ∨ wd < days then 11 else 0

set_option maxHeartbeats 1000000 in
theorem rulemay_any (wd f0 f1 f2 f3 s0 t0 s1 t1 s2 t2 s3 t3 days : Int) (fi ex cr wants : Bool) (w : World) :
    Calls Try.prog 28 #[.agg #[.int .i64 wd, .bool fi, .bool ex, .bool cr, .int .i64 f0, .int .i64 f1, .int .i64 f2, .int .i64 f3, .int .i64 s0, .int .i64 t0, .int .i64 s1, .int .i64 t1, .int .i64 s2, .int .i64 t2, .int .i64 s3, .int .i64 t3], .int .i64 days, .bool wants] w
      fun e w' => e = .returned (.int .i64 (mayE (polB wd f0 f1 f2 f3 s0 t0 s1 t1 s2 t2 s3 t3) wd fi ex wants days)) ∧ Below w.heap.size w w' := by
  have H := Lib.hid (ruleright_any wd f0 f1 f2 f3 s0 t0 s1 t1 s2 t2 s3 t3 fi ex cr)
  generalize polB wd f0 f1 f2 f3 s0 t0 s1 t1 s2 t2 s3 t3 = V at *
  go_enter Try.func28, Try.ntmps28
  go_wp2_with fail
  refine (H.out _).mono ?_
  rintro e w2 ⟨rfl, hb2⟩
  have c0 : w2.cell? ⟨w.heap.size, 0, none⟩ = some (.int .i64 wd) := (hb2.cell (p := ⟨w.heap.size, 0, none⟩) (by simp)).trans (by simp)
  have c1 : w2.cell? ⟨w.heap.size, 1, none⟩ = some (.bool fi) := (hb2.cell (p := ⟨w.heap.size, 1, none⟩) (by simp)).trans (by simp)
  have c2 : w2.cell? ⟨w.heap.size, 2, none⟩ = some (.bool ex) := (hb2.cell (p := ⟨w.heap.size, 2, none⟩) (by simp)).trans (by simp)
  have hb3 : Below w.heap.size w w2 := ((Below.refl _ _).alloc (Nat.le_refl _) _).trans (below_le hb2 (by simp))
  clear hb2 H
  cases V
  · go_wp2_with fail
    go_ret
    exact ⟨by simp [mayE, *], hb3⟩
  · cases fi
    · cases ex
      · by_cases d0 : days < 0
        · go_wp2_with fail
          go_ret
          exact ⟨by simp [mayE, *], hb3⟩
        · by_cases d1 : wd < days
          all_goals
            go_wp2_with fail
            go_ret
            exact ⟨by simp [mayE, *], hb3⟩
      · cases wants
        · go_wp2_with fail
          go_ret
          exact ⟨by simp [mayE, *], hb3⟩
        · by_cases d0 : days < 0
          · go_wp2_with fail
            go_ret
            exact ⟨by simp [mayE, *], hb3⟩
          · by_cases d1 : wd < days
            all_goals
              go_wp2_with fail
              go_ret
              exact ⟨by simp [mayE, *], hb3⟩
    · go_wp2_with fail
      go_ret
      exact ⟨by simp [mayE, *], hb3⟩


set_option maxHeartbeats 1000000 in
theorem refmay_any (wd f0 f1 f2 f3 s0 t0 s1 t1 s2 t2 s3 t3 days : Int) (fi ex cr wants : Bool) (w : World) :
    Calls Try.prog 29 #[.agg #[.int .i64 wd, .bool fi, .bool ex, .bool cr, .int .i64 f0, .int .i64 f1, .int .i64 f2, .int .i64 f3, .int .i64 s0, .int .i64 t0, .int .i64 s1, .int .i64 t1, .int .i64 s2, .int .i64 t2, .int .i64 s3, .int .i64 t3], .int .i64 days, .bool wants] w
      fun e w' => e = .returned (.int .i64 (mayE (polB wd f0 f1 f2 f3 s0 t0 s1 t1 s2 t2 s3 t3) wd fi ex wants days)) ∧ Below w.heap.size w w' := by
  have H := Lib.hid (refpol_any wd f0 f1 f2 f3 s0 t0 s1 t1 s2 t2 s3 t3 fi ex cr)
  generalize polB wd f0 f1 f2 f3 s0 t0 s1 t1 s2 t2 s3 t3 = V at *
  go_enter Try.func29, Try.ntmps29
  go_wp2_with fail
  refine (H.out _).mono ?_
  rintro e w2 ⟨rfl, hb2⟩
  have c0 : w2.cell? ⟨w.heap.size, 0, none⟩ = some (.int .i64 wd) := (hb2.cell (p := ⟨w.heap.size, 0, none⟩) (by simp)).trans (by simp)
  have c1 : w2.cell? ⟨w.heap.size, 1, none⟩ = some (.bool fi) := (hb2.cell (p := ⟨w.heap.size, 1, none⟩) (by simp)).trans (by simp)
  have c2 : w2.cell? ⟨w.heap.size, 2, none⟩ = some (.bool ex) := (hb2.cell (p := ⟨w.heap.size, 2, none⟩) (by simp)).trans (by simp)
  have hb3 : Below w.heap.size w w2 := ((Below.refl _ _).alloc (Nat.le_refl _) _).trans (below_le hb2 (by simp))
  clear hb2 H
  cases V
  · go_wp2_with fail
    go_ret
    exact ⟨by simp [mayE, *], hb3⟩
  · cases fi
    · cases ex
      · by_cases d0 : days < 0
        · go_wp2_with fail
          go_ret
          exact ⟨by simp [mayE, *], hb3⟩
        · by_cases d1 : wd < days
          all_goals
            go_wp2_with fail
            go_ret
            exact ⟨by simp [mayE, *], hb3⟩
      · cases wants
        · go_wp2_with fail
          go_ret
          exact ⟨by simp [mayE, *], hb3⟩
        · by_cases d0 : days < 0
          · go_wp2_with fail
            go_ret
            exact ⟨by simp [mayE, *], hb3⟩
          · by_cases d1 : wd < days
            all_goals
              go_wp2_with fail
              go_ret
              exact ⟨by simp [mayE, *], hb3⟩
    · go_wp2_with fail
      go_ret
      exact ⟨by simp [mayE, *], hb3⟩


theorem awake09 (w : World) : Calls Try.prog 27 #[] w fun e w' => e = .returned (.bool true) ∧ Below w.heap.size w w' := by
  have H := Lib.hid (rulemay_any 0 0 0 0 0 0 0 0 0 0 0 0 0 0 true false false true)
  have e1 : mayE (polB 0 0 0 0 0 0 0 0 0 0 0 0 0) 0 true false true 0 = 12 := by decide +kernel
  rw [e1] at H
  clear e1
  go_enter Try.func27, Try.ntmps27
  go_wp2_with fail
  refine (H.out _).mono ?_
  rintro e w2 ⟨rfl, hb2⟩
  go_wp2_with fail
  go_ret
  exact ⟨by simp, hb2⟩

end Go.Proofs.Yteeiiahmhmbepaa.Led
