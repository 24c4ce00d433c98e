/- Commands: what awake asks. -/
import Derived.Test.YtnkgbigjpihfeaaKu
import Derived.Deep.RegionHeld3
set_option linter.unusedVariables false
set_option linter.unusedSimpArgs false
namespace Go.Proofs.Ytnkgbigjpihfeaa.Kd
open Go.RowKit Go.Proofs.Ytnkgbigjpihfeaa.Lib

/-- The command that awake asks of. -/
def tick3 : Value := .agg #[.int .i64 7, .int .i64 0, .slice none 0 0, .int .i64 0, .int .i64 0, .bool false, .int .i64 0, .int .i64 0, .int .i64 0, .int .i64 3, .int .i64 0, .bool false]

theorem eqs_nil (w : World) : Calls Try.prog 73 #[.slice none 0 0, .slice none 0 0] w fun e w' => e = .returned (.bool true) ∧ w' = w := by
  go_enter Try.func73, Try.ntmps73
  go_wp2_with fail
  go_loopw [13] (fun i wr => i = .int .i64 0 ∧ wr = w) (fun i _ => 1 - (intOf i).toNat)
  case atStart => exact ⟨rfl, rfl⟩
  case round =>
    obtain ⟨rfl, rfl⟩ := hrel
    go_wp2_with fail
    go_ret
    exact ⟨rfl, rfl⟩

set_option maxRecDepth 100000 in
set_option maxHeartbeats 1600000 in
theorem equal_tick (w : World) : Calls Try.prog 42 #[tick3, tick3] w fun e w' => e = .returned (.bool true) ∧ Below w.heap.size w w' := by
  unfold tick3
  go_enter Try.func42, Try.ntmps42
  go_wp2_with fail
  refine (eqs_nil _).mono ?_
  rintro e w1 ⟨rfl, rfl⟩
  go_wp2_with fail
  go_ret
  exact ⟨rfl, ((Below.refl _ _).alloc (Nat.le_refl _) _).alloc (by simp) _⟩

set_option maxRecDepth 100000 in
set_option maxHeartbeats 1600000 in
theorem needed_tick (w : World) : Calls Try.prog 71 #[tick3] w fun e w' => e = .returned tick3 ∧ Below w.heap.size w w' := by
  unfold tick3
  go_enter Try.func71, Try.ntmps71
  go_wp2_with fail
  refine bodyPost_ret (results_cell_row (p := 2) (ty := 55) rfl _ _ (w.heap.size + 1) 55 #[.int .i64 7, .int .i64 0, .slice none 0 0, .int .i64 0, .int .i64 0, .bool false, .int .i64 0, .int .i64 0, .int .i64 0, .int .i64 3, .int .i64 0, .bool false] (0, 0) _ (by rfl) ?_ Try.underlying55 rfl (by kernel_rfl)) rfl ⟨rfl, ?_⟩
  · exact (((Below.refl _ _).alloc (Nat.le_refl _) _).block (w.heap.size + 1) (by simp)).trans (heap_alloc2_new w _ _)
  · exact (((Below.refl _ _).alloc (Nat.le_refl _) _).alloc (by simp) _).alloc (by simp; omega) _

set_option maxRecDepth 100000 in
set_option maxHeartbeats 1600000 in
theorem write_tick (w : World) : Calls Try.prog 70 #[tick3] w fun e w' => endS w [7, 3, 0] e w' := by
  unfold tick3
  have hb0 : Below w.heap.size w (w.alloc (.cells #[.int .i64 7, .int .i64 0, .slice none 0 0, .int .i64 0, .int .i64 0, .bool false, .int .i64 0, .int .i64 0, .int .i64 0, .int .i64 3, .int .i64 0, .bool false] 55)) := (Below.refl _ _).alloc (Nat.le_refl _) _
  have h0 := newOut (w.alloc (.cells #[.int .i64 7, .int .i64 0, .slice none 0 0, .int .i64 0, .int .i64 0, .bool false, .int .i64 0, .int .i64 0, .int .i64 0, .int .i64 3, .int .i64 0, .bool false] 55))
  have hc0 : ((w.alloc (.cells #[.int .i64 7, .int .i64 0, .slice none 0 0, .int .i64 0, .int .i64 0, .bool false, .int .i64 0, .int .i64 0, .int .i64 0, .int .i64 3, .int .i64 0, .bool false] 55)).alloc (.cells #[.slice none 0 0, .bool false] 39)).heap[w.heap.size]? = some (.cells #[.int .i64 7, .int .i64 0, .slice none 0 0, .int .i64 0, .int .i64 0, .bool false, .int .i64 0, .int .i64 0, .int .i64 0, .int .i64 3, .int .i64 0, .bool false] 55 (0, 0)) := (((Below.refl _ _).alloc (Nat.le_refl _) _).block w.heap.size (by simp)).trans (heap_alloc_new w _)
  have hb1 := hb0.alloc (by simp) (.cells #[.slice none 0 0, .bool false] 39)
  rw [show (w.alloc (.cells #[.int .i64 7, .int .i64 0, .slice none 0 0, .int .i64 0, .int .i64 0, .bool false, .int .i64 0, .int .i64 0, .int .i64 0, .int .i64 3, .int .i64 0, .bool false] 55)).heap.size = w.heap.size + 1 from by simp] at h0
  have H62 := Lib.hid (u8_s h0 7 (by decide) (by decide))
  replace hb1 := Lib.hid hb1
  replace h0 := Lib.hid h0
  replace hc0 := Lib.hid hc0
  clear hb0
  go_enter Try.func70, Try.ntmps70
  go_wp2_with fail
  generalize hwx : (w.alloc (.cells #[.int .i64 7, .int .i64 0, .slice none 0 0, .int .i64 0, .int .i64 0, .bool false, .int .i64 0, .int .i64 0, .int .i64 0, .int .i64 3, .int .i64 0, .bool false] 55)).alloc (.cells #[.slice none 0 0, .bool false] 39) = wx at *
  replace hwx := Lib.hid hwx
  refine H62.out.mono ?_
  rintro e w1 ⟨rfl, v1, h1, p1⟩
  rw [show smallL [] false 7 1 = ([7], false) from by decide] at h1
  have hb2 := (hb1.out.trans ((p1.below h0.out).mono (by omega)))
  have hx1 : w1.heap[w.heap.size]? = some (.cells #[.int .i64 7, .int .i64 0, .slice none 0 0, .int .i64 0, .int .i64 0, .bool false, .int .i64 0, .int .i64 0, .int .i64 0, .int .i64 3, .int .i64 0, .bool false] 55 (0, 0)) := ((p1.below h0.out).block w.heap.size (by omega)).trans hc0.out
  have k0 : w1.cell? ⟨w.heap.size, 0, none⟩ = some (.int .i64 7) := by simp [World.cell?, hx1]
  have k9 : w1.cell? ⟨w.heap.size, 9, none⟩ = some (.int .i64 3) := by simp [World.cell?, hx1]
  have H58 := Lib.hid (u16_s h1 3 (by decide) (by decide))
  replace hb2 := Lib.hid hb2
  replace h1 := Lib.hid h1
  clear p1 hx1
  go_wp2_with fail
  refine H58.out.mono ?_
  rintro e w2 ⟨rfl, v2, h2, p2⟩
  rw [show smallL [7] false 3 2 = ([7, 3, 0], false) from by decide] at h2
  have hb3 := Lib.hid (hb2.out.trans ((p2.below h1.out).mono (by omega)))
  have H28 := Lib.hid (end_s h2 (by decide))
  clear h2 p2 k0 k9
  go_wp2_with fail
  refine H28.out.mono ?_
  rintro e w3 ⟨a3, c3, rfl, g1, g2, g3, g4, g5, g6⟩
  replace g1 := Lib.hid g1
  replace g2 := Lib.hid g2
  replace g5 := Lib.hid g5
  replace g6 := Lib.hid g6
  have hs3 := hb3.out.size
  go_wp2_with fail
  go_ret2
  exact ⟨a3, c3, rfl, g1.out, g2.out, g3, g4, fun p e => Nat.le_trans hs3 (g5.out p e), hb3.out.trans (g6.out.mono hs3)⟩

end Go.Proofs.Ytnkgbigjpihfeaa.Kd
