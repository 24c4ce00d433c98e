/- The law RuleMay, walked: it answers true; every policy, every number of days. -/
import Derived.Test.YteeiiahmhmbepaaRulM
import Derived.Deep.RegionWith
set_option linter.unusedVariables false
namespace Go.Proofs.Yteeiiahmhmbepaa.Led
open Go.RowKit

set_option maxHeartbeats 2000000 in
theorem rulemay_law (wd f0 f1 f2 f3 s0 t0 s1 t1 s2 t2 s3 t3 days : Int) (fi ex cr wants : Bool) (w : World) :
    Calls Try.prog 7 #[.agg #[.int .i64 wd, .bool fi, .bool ex, .bool cr, .int .i64 f0, .int .i64 f1, .int .i64 f2, .int .i64 f3, .int .i64 s0, .int .i64 t0, .int .i64 s1, .int .i64 t1, .int .i64 s2, .int .i64 t2, .int .i64 s3, .int .i64 t3], .int .i64 days, .bool wants] w fun e w' => e = .returned (.bool true) ∧ Below w.heap.size w w' := by
  have H1 := Lib.hid (rulemay_any wd f0 f1 f2 f3 s0 t0 s1 t1 s2 t2 s3 t3 days fi ex cr wants)
  have H2 := Lib.hid (refmay_any wd f0 f1 f2 f3 s0 t0 s1 t1 s2 t2 s3 t3 days fi ex cr wants)
  generalize mayE (polB wd f0 f1 f2 f3 s0 t0 s1 t1 s2 t2 s3 t3) wd fi ex wants days = E at *
  go_enter Try.func7, Try.ntmps7
  go_wp2_with fail
  refine (awake09 _).mono ?_
  rintro e w1 ⟨rfl, hb1⟩
  obtain ⟨hc1, hf1⟩ := bcell hb1
  have hz : w.heap.size < w1.heap.size := by have := hb1.size; simp at this; omega
  have hb : Below w.heap.size w w1 := ((Below.refl _ _).alloc (Nat.le_refl _) _).trans (below_le hb1 (by simp))
  go_wp2_with fail
  go_region_with (first | (go_at_call 28; refine (H1.out _).mono ?_; rintro e w2 ⟨rfl, hb2⟩; have hc2 : ∀ o, w2.cell? ⟨w.heap.size, o, none⟩ = w1.cell? ⟨w.heap.size, o, none⟩ := fun o => hb2.cell (p := ⟨w.heap.size, o, none⟩) hz) | (go_at_call 29; refine (H2.out _).mono ?_; rintro e w3 ⟨rfl, hb3⟩; have hc3 : ∀ o, w3.cell? ⟨w.heap.size, o, none⟩ = w1.cell? ⟨w.heap.size, o, none⟩ := fun o => (hb3.cell (p := ⟨w.heap.size, o, none⟩) (by first | exact hz | (have := hb2.size; exact Nat.lt_of_lt_of_le hz this))).trans (by first | rfl | exact hc2 o)))
  all_goals
    go_wp2
    go_ret
    have z1 := hb.size
    have z2 := hb2.size
    exact ⟨by simp [Act.put], (hb.drew.trans (below_le hb2 (by first | exact z1 | omega))).trans (below_le hb3 (by exact Nat.le_trans z1 z2))⟩

end Go.Proofs.Yteeiiahmhmbepaa.Led
