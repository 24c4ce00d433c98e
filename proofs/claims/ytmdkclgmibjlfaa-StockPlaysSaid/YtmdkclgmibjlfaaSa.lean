/- The stock's laws' awake; StockMay. -/
import Derived.Test.YtmdkclgmibjlfaaSv
set_option linter.unusedVariables false
set_option linter.unusedSimpArgs false
namespace Go.Proofs.Ytmdkclgmibjlfaa.Ba
open Go.RowKit Go.Maps Go.Proofs.Ytmdkclgmibjlfaa.Mx Go.Proofs.Ytmdkclgmibjlfaa.Lib

theorem one_int1 (w : World) (t : TypeId) (x : Int) : IntsAt (w.alloc (.cells #[.int .i64 x] t)) .i64 (some ⟨w.heap.size, 0, none⟩) 1 (fun _ => x) := by
  refine ⟨by omega, fun _ => ⟨w.heap.size, 0, rfl, by simp, fun j hj => ?_⟩⟩
  obtain rfl : j = 0 := by omega
  have := heap_alloc_new w (.cells #[.int .i64 x] t)
  unfold World.cell?
  rw [show (w.alloc (.cells #[.int .i64 x] t)).heap[(⟨w.heap.size, 0 + 0, none⟩ : Addr).block]? = _ from this]
  rfl

set_option maxRecDepth 100000 in
theorem awake11 (w : World) : Calls Try.prog 14 #[] w fun e w' => e = .returned (.bool true) ∧ Below w.heap.size w w' := by
  go_enter Try.func14, Try.ntmps14
  go_wp2_with fail
  have i5' : IntsAt ((w.alloc (.cells #[.int .i64 5] 3)).alloc (.cells #[.int .i64 0] 3)) .i64 (some ⟨w.heap.size, 0, none⟩) 1 (fun _ => 5) := (one_int1 w 3 5).below ((Below.refl _ _).alloc (Nat.le_refl _) _)
  have i0 : IntsAt ((w.alloc (.cells #[.int .i64 5] 3)).alloc (.cells #[.int .i64 0] 3)) .i64 (some ⟨w.heap.size + 1, 0, none⟩) 1 (fun _ => 0) := by
    have := one_int1 (w.alloc (.cells #[.int .i64 5] 3)) 3 0
    rwa [show (w.alloc (.cells #[.int .i64 5] 3)).heap.size = w.heap.size + 1 from by simp] at this
  have hb0 := Lib.hid (((Below.refl w.heap.size w).alloc (Nat.le_refl _) (.cells #[.int .i64 5] 3)).alloc (by simp) (.cells #[.int .i64 0] 3))
  have hsz : ((w.alloc (.cells #[.int .i64 5] 3)).alloc (.cells #[.int .i64 0] 3)).heap.size = w.heap.size + 1 + 1 := by simp
  have H17 := Lib.hid (snew_any (c := 1) (d := 1) _ i5' i0 (by decide) (Y := true) (Lib.hid (by decide)))
  have hE : usOf (fun _ => 0) (fun _ => 5) 1 = [(0, 5, false, false)] := by decide
  rw [hE] at H17
  unfold newPost at H17
  rw [hsz] at H17
  clear i5' i0
  refine (H17.out).mono ?_
  rintro e w1 ⟨h1, _, b1⟩
  obtain ⟨rfl, v, hst⟩ := h1 rfl
  have bb1 := Lib.hid (hb0.out.trans (b1.mono (by omega)))
  have hBs := Lib.hid hb0.out.size
  clear h1 hb0 H17 hE b1
  rw [hsz] at hBs
  clear hsz
  generalize hB : w.heap.size + 1 + 1 = B at *
  have hst := Lib.hid hst
  go_wp2_with fail
  refine (move_any hst.out (j := 0) (by decide) 1 (Y := true) (Lib.hid (by decide))).mono ?_
  rintro e w2 ⟨rfl, h2, b2⟩
  replace h2 : Hid (StkAt w2 B v [(1, 5, false, false)]) := Lib.hid h2
  replace b2 := Lib.hid (bb1.out.trans (b2.mono (by have := hBs.out; omega)))
  go_wp2_with fail
  refine (place_any h2.out (j := 0) (by decide)).mono ?_
  rintro e w3 ⟨rfl, rfl⟩
  go_wp2_with fail
  refine (may_any 0 1 _).mono ?_
  rintro e w4 ⟨rfl, b4⟩
  go_wp2_with fail
  go_ret
  exact ⟨by rfl, b2.out.trans (b4.mono b2.out.size)⟩

/-- Whether a unit moves from one place to another is told as the document says. -/
theorem stockMay_walk (f t : Int) (W : World) : Calls Try.prog 3 #[.int .i64 f, .int .i64 t] W fun e w' => e = .returned (.bool true) ∧ Below W.heap.size W w' := by
  go_enter Try.func3, Try.ntmps3
  go_wp2_with fail
  refine (awake11 W).mono ?_
  rintro e w1 ⟨rfl, b1⟩
  go_wp2_with fail
  refine (may_any f t _).mono ?_
  rintro e w2 ⟨rfl, b2⟩
  go_wp2_with fail
  refine (refmay_any f t _).mono ?_
  rintro e w3 ⟨rfl, rfl⟩
  go_wp2_with fail
  go_ret
  exact ⟨by simp, b1.trans (b2.mono b1.size)⟩

end Go.Proofs.Ytmdkclgmibjlfaa.Ba
