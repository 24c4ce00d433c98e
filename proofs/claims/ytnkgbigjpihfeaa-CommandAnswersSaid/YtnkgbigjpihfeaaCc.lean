/- Answers: encoded and decoded. -/
import Derived.Test.YtnkgbigjpihfeaaCb
set_option linter.unusedVariables false
set_option linter.unusedSimpArgs false
namespace Go.Proofs.Ytnkgbigjpihfeaa.Kd
open Go.RowKit Go.Proofs.Ytnkgbigjpihfeaa.Lib

theorem encA_bad (w : World) (r v : Int) (h : r < 0 ∨ 255 < r) : Calls Try.prog 44 #[.agg #[.int .i64 r, .int .i64 v]] w fun e w' => e = .returned (.tuple #[.slice none 0 0, .int .i64 1]) ∧ Below w.heap.size w w' := by
  by_cases h0 : r < 0
  · clear h
    go_enter Try.func44, Try.ntmps44
    go_wp2_with fail
    go_ret2
    exact ⟨rfl, (Below.refl _ _).alloc (Nat.le_refl _) _⟩
  · have h1 : 255 < r := by omega
    clear h
    go_enter Try.func44, Try.ntmps44
    go_wp2_with fail
    go_ret2
    exact ⟨rfl, (Below.refl _ _).alloc (Nat.le_refl _) _⟩

set_option maxRecDepth 100000 in
theorem encA_ok (w : World) (r v : Int) (h0 : 0 ≤ r) (h1 : r ≤ 255) : Calls Try.prog 44 #[.agg #[.int .i64 r, .int .i64 v]] w fun e w' => endS w ([] ++ leB r 1 ++ leB (v % 18446744073709551616) 8) e w' := by
  have hb0 : Below w.heap.size w (w.alloc (.cells #[.int .i64 r, .int .i64 v] 63)) := (Below.refl _ _).alloc (Nat.le_refl _) _
  have hn := newOut (w.alloc (.cells #[.int .i64 r, .int .i64 v] 63))
  have hc0 : ((w.alloc (.cells #[.int .i64 r, .int .i64 v] 63)).alloc (.cells #[.slice none 0 0, .bool false] 39)).heap[w.heap.size]? = some (.cells #[.int .i64 r, .int .i64 v] 63 (0, 0)) := (((Below.refl _ _).alloc (Nat.le_refl _) _).block w.heap.size (by simp)).trans (heap_alloc_new w _)
  have hb1 := hb0.alloc (by simp) (.cells #[.slice none 0 0, .bool false] 39)
  rw [show (w.alloc (.cells #[.int .i64 r, .int .i64 v] 63)).heap.size = w.heap.size + 1 from by simp] at hn
  have H62 := u8_s hn r (by omega) (by decide)
  rw [smallL_good (l := []) (x := r) (k := 1) h0 (by rw [p1]; omega)] at H62
  replace H62 := Lib.hid H62
  replace hb1 := Lib.hid hb1
  replace hn := Lib.hid hn
  have hc00 : ((w.alloc (.cells #[.int .i64 r, .int .i64 v] 63)).alloc (.cells #[.slice none 0 0, .bool false] 39)).cell? ⟨w.heap.size, 0, none⟩ = some (.int .i64 r) := by simp only [World.cell?, hc0]; rfl
  replace hc0 := Lib.hid hc0
  clear hb0
  have h0' : ¬ r < 0 := by omega
  have h1' : ¬ 255 < r := by omega
  go_enter Try.func44, Try.ntmps44
  go_wp2_with fail
  generalize hwx : (w.alloc (.cells #[.int .i64 r, .int .i64 v] 63)).alloc (.cells #[.slice none 0 0, .bool false] 39) = wx at *
  replace hwx := Lib.hid hwx
  refine H62.out.mono ?_
  rintro e w1 ⟨rfl, v1, q1, p1'⟩
  have hb2 := (hb1.out.trans ((p1'.below hn.out).mono (by omega)))
  have hx1 : w1.heap[w.heap.size]? = some (.cells #[.int .i64 r, .int .i64 v] 63 (0, 0)) := ((p1'.below hn.out).block w.heap.size (by omega)).trans hc0.out
  have k1 : w1.cell? ⟨w.heap.size, 1, none⟩ = some (.int .i64 v) := by simp [World.cell?, hx1]
  have H64 := i64_s q1 v (by simp [leB_len])
  simp only [Bool.false_eq_true, if_false] at H64
  replace H64 := Lib.hid H64
  replace hb2 := Lib.hid hb2
  replace q1 := Lib.hid q1
  clear p1' hx1
  go_wp2_with fail
  refine H64.out.mono ?_
  rintro e w2 ⟨rfl, v2, q2, p2'⟩
  have hb3 := Lib.hid (hb2.out.trans ((p2'.below q1.out).mono (by omega)))
  have H28 := Lib.hid (end_s q2 (by simp [leB_len]))
  clear q2 p2' k1
  go_wp2_with fail
  refine H28.out.mono ?_
  rintro e w3 ⟨a3, c3, rfl, g1, g2, g3, g4, g5, g6⟩
  replace g1 := Lib.hid g1
  replace g2 := Lib.hid g2
  replace g5 := Lib.hid g5
  replace g6 := Lib.hid g6
  have hs3 := hb3.out.size
  go_wp2_with fail
  go_ret2
  exact ⟨a3, c3, by simp, g1.out, g2.out, g3, g4, fun p e => Nat.le_trans hs3 (g5.out p e), hb3.out.trans (g6.out.mono hs3)⟩

end Go.Proofs.Ytnkgbigjpihfeaa.Kd
