/- The carrier's laws' awake; a nil carrier answers No, and has nothing. -/
import Derived.Test.YtmdkclgmibjlfaaCa
set_option linter.unusedVariables false
set_option linter.unusedSimpArgs false
namespace Go.Proofs.Ytmdkclgmibjlfaa.Ba
open Go.RowKit Go.Maps Go.Proofs.Ytmdkclgmibjlfaa.Mx Go.Proofs.Ytmdkclgmibjlfaa.Lib

theorem one_int (w : World) (t : TypeId) (x : Int) : IntsAt (w.alloc (.cells #[.int .i64 x] t)) .i64 (some ⟨w.heap.size, 0, none⟩) 1 (fun _ => x) := by
  refine ⟨by omega, fun _ => ⟨w.heap.size, 0, rfl, by simp, fun j hj => ?_⟩⟩
  obtain rfl : j = 0 := by omega
  have := heap_alloc_new w (.cells #[.int .i64 x] t)
  unfold World.cell?
  rw [show (w.alloc (.cells #[.int .i64 x] t)).heap[(⟨w.heap.size, 0 + 0, none⟩ : Addr).block]? = _ from this]
  rfl

set_option maxRecDepth 100000 in
theorem awake19 (w : World) : Calls Try.prog 27 #[] w fun e w' => e = .returned (.bool true) ∧ Below w.heap.size w w' := by
  go_enter Try.func27, Try.ntmps27
  go_wp2_with fail
  refine (cnew_any (F := fun _ => 2) _ (one_int w _ 2) (by simp) (by decide)).mono ?_
  rintro e w1 ⟨B, M, a', c', rfl, h1, gB, gM, b1⟩
  have h1 := Lib.hid h1
  have b1 := Lib.hid b1
  have hB : w.heap.size ≤ B := by simp at gB; omega
  have hM : w.heap.size ≤ M := by simp at gM; omega
  clear gB gM
  go_wp2_with fail
  refine (cask_new h1.out (k := 1) rfl (by decide) 1 (by decide) (Y := true) (Lib.hid (by decide))).mono ?_
  rintro e w2 ⟨rfl, b2, h2⟩
  have h2 := Lib.hid h2
  have b2 := Lib.hid b2
  go_wp2_with fail
  refine (cask_new h2.out (k := 2) rfl (by decide) 2 (by decide) (Y := false) (Lib.hid (by decide))).mono ?_
  rintro e w3 ⟨rfl, b3, h3⟩
  have h3 := Lib.hid h3
  have b3 := Lib.hid b3
  go_wp2_with fail
  refine (clabels_any h3.out (by decide)).mono ?_
  rintro e w4 ⟨rfl, b4⟩
  have ht : total fC ([] ++ [((1 : Int), true)] ++ [((2 : Int), false)]) = 1 := by decide
  rw [ht]
  go_wp2_with fail
  go_ret
  refine ⟨rfl, ?_⟩
  have b5 := (((Below.refl w.heap.size w).alloc (Nat.le_refl _) (.cells #[.int .i64 2] 3)).trans (b1.out.mono (by simp)))
  have hs := b5.size
  exact b5.trans (((b2.out.trans b3.out).trans (Chg.of_below b4)).below hs hB hM)

/-- A nil carrier answers No, and has nothing. -/
theorem carrierNil_walk (k r : Int) (W : World) : Calls Try.prog 8 #[.int .i64 k, .int .i64 r] W fun e w' => e = .returned (.bool true) ∧ Below W.heap.size W w' := by
  go_enter Try.func8, Try.ntmps8
  go_wp2_with fail
  refine (awake19 W).mono ?_
  rintro e w1 ⟨rfl, b1⟩
  go_wp2_with fail
  refine (casked_nil k _).mono ?_
  rintro e w2 ⟨rfl, rfl⟩
  go_wp2_with fail
  refine (cask_nil k r _).mono ?_
  rintro e w3 ⟨rfl, rfl⟩
  go_wp2_with fail
  refine (clabels_nil _).mono ?_
  rintro e w4 ⟨rfl, rfl⟩
  go_wp2_with fail
  go_ret
  exact ⟨rfl, b1⟩

end Go.Proofs.Ytmdkclgmibjlfaa.Ba
