/- rule.right, walked: it tells right policies; every policy. -/
import Derived.Test.YteeiiahmhmbepaaRul
import Derived.LoopTactic
import Derived.LoopN
set_option linter.unusedVariables false
namespace Go.Proofs.Yteeiiahmhmbepaa.Led
open Go.RowKit

theorem closure_any (wd f0 f1 f2 f3 s0 t0 s1 t1 s2 t2 s3 t3 : Int) (fi ex cr : Bool) (w : World) :
    Calls Try.prog 53 #[.agg #[.int .i64 wd, .bool fi, .bool ex, .bool cr, .int .i64 f0, .int .i64 f1, .int .i64 f2, .int .i64 f3, .int .i64 s0, .int .i64 t0, .int .i64 s1, .int .i64 t1, .int .i64 s2, .int .i64 t2, .int .i64 s3, .int .i64 t3]] w
      fun e w' => e = .returned (.bool (!polB wd f0 f1 f2 f3 s0 t0 s1 t1 s2 t2 s3 t3)) ∧ Below w.heap.size w w' := by
  have H := Lib.hid (tright_any wd f0 f1 f2 f3 s0 t0 s1 t1 s2 t2 s3 t3 fi ex cr)
  generalize polB wd f0 f1 f2 f3 s0 t0 s1 t1 s2 t2 s3 t3 = v at *
  go_enter Try.func53, Try.ntmps53
  go_wp2_with fail
  refine (H.out _).mono ?_
  rintro e w2 ⟨rfl, hb2⟩
  go_wp2_with fail
  go_ret
  exact ⟨by simp, ((Below.refl _ _).alloc (Nat.le_refl _) _).trans (below_le hb2 (by simp))⟩

set_option maxHeartbeats 1000000 in
theorem ruleright_any (wd f0 f1 f2 f3 s0 t0 s1 t1 s2 t2 s3 t3 : Int) (fi ex cr : Bool) (w : World) :
    Calls Try.prog 44 #[.agg #[.int .i64 wd, .bool fi, .bool ex, .bool cr, .int .i64 f0, .int .i64 f1, .int .i64 f2, .int .i64 f3, .int .i64 s0, .int .i64 t0, .int .i64 s1, .int .i64 t1, .int .i64 s2, .int .i64 t2, .int .i64 s3, .int .i64 t3]] w
      fun e w' => e = .returned (.bool (polB wd f0 f1 f2 f3 s0 t0 s1 t1 s2 t2 s3 t3)) ∧ Below w.heap.size w w' := by
  have H := Lib.hid (closure_any wd f0 f1 f2 f3 s0 t0 s1 t1 s2 t2 s3 t3 fi ex cr)
  generalize polB wd f0 f1 f2 f3 s0 t0 s1 t1 s2 t2 s3 t3 = v at *
  go_enter Try.func44, Try.ntmps44
  cases v
  · go_wp2
    refine wp_loop_rounds 2 ?_
    rw [rounds_succ]
    go_wp2_with fail
    refine (H.out _).mono ?_
    rintro e w2 ⟨rfl, hb2⟩
    go_wp2_with fail
    go_ret
    exact ⟨by simp, (((Below.refl _ _).alloc (Nat.le_refl _) _).alloc (by simp) _).trans (below_le hb2 (by simp; omega))⟩
  · go_wp2
    refine wp_loop_rounds 2 ?_
    rw [rounds_succ]
    go_wp2_with fail
    refine (H.out _).mono ?_
    rintro e w2 ⟨rfl, hb2⟩
    go_wp2_with fail
    rw [rounds_succ]
    go_wp2_with fail
    go_ret
    exact ⟨by simp, (((Below.refl _ _).alloc (Nat.le_refl _) _).alloc (by simp) _).trans (below_le hb2 (by simp; omega))⟩

end Go.Proofs.Yteeiiahmhmbepaa.Led
