/- The house's laws' awake; a nil house answers No, and has nothing. -/
import Derived.Test.YtmdkclgmibjlfaaHa
import Derived.Test.YtmdkclgmibjlfaaCb
set_option linter.unusedVariables false
set_option linter.unusedSimpArgs false
namespace Go.Proofs.Ytmdkclgmibjlfaa.Ba
open Go.RowKit Go.Maps Go.Proofs.Ytmdkclgmibjlfaa.Mx Go.Proofs.Ytmdkclgmibjlfaa.Lib

set_option maxRecDepth 100000 in
theorem awake21 (w : World) : Calls Try.prog 38 #[] w fun e w' => e = .returned (.bool true) ∧ Below w.heap.size w w' := by
  go_enter Try.func38, Try.ntmps38
  go_wp2_with fail
  refine (hnew_any (F := fun _ => 2) _ (one_int w _ 2) (by simp) (by decide)).mono ?_
  rintro e w1 ⟨B, M, a', c', rfl, h1, gB, gM, b1⟩
  have h1 := Lib.hid h1
  have b1 := Lib.hid b1
  have hB : w.heap.size ≤ B := by simp at gB; omega
  have hM : w.heap.size ≤ M := by simp at gM; omega
  clear gB gM
  go_wp2_with fail
  refine (hask_new h1.out (k := 1) rfl (by decide) 1 (by decide) (Y := true) (Lib.hid (by decide))).mono ?_
  rintro e w2 ⟨rfl, b2, h2⟩
  have h2 := Lib.hid h2
  have b2 := Lib.hid b2
  go_wp2_with fail
  refine (hask_new h2.out (k := 2) rfl (by decide) 2 (by decide) (Y := false) (Lib.hid (by decide))).mono ?_
  rintro e w3 ⟨rfl, b3, h3⟩
  have h3 := Lib.hid h3
  have b3 := Lib.hid b3
  go_wp2_with fail
  refine (hsent_any h3.out 1 (by decide)).mono ?_
  rintro e w4 ⟨rfl, b4⟩
  have h4 := Lib.hid (h3.out.keep b4)
  have b4 := Lib.hid b4
  have ht : total (fH 1) ([] ++ [((1 : Int), ((1 : Int), true))] ++ [((2 : Int), ((2 : Int), false))]) = 1 := by decide
  rw [ht]
  go_wp2_with fail
  refine (hkeys_any h4.out).mono ?_
  rintro e w5 ⟨rfl, rfl⟩
  go_wp2_with fail
  go_ret
  refine ⟨rfl, ?_⟩
  have b5 := (((Below.refl w.heap.size w).alloc (Nat.le_refl _) (.cells #[.int .i64 2] 3)).trans (b1.out.mono (by simp)))
  have hs := b5.size
  exact b5.trans (((b2.out.trans b3.out).trans (Chg.of_below b4.out)).below hs hB hM)

/-- A nil house answers No, and has nothing. -/
theorem houseNil_walk (k r : Int) (W : World) : Calls Try.prog 13 #[.int .i64 k, .int .i64 r] W fun e w' => e = .returned (.bool true) ∧ Below W.heap.size W w' := by
  go_enter Try.func13, Try.ntmps13
  go_wp2_with fail
  refine (awake21 W).mono ?_
  rintro e w1 ⟨rfl, b1⟩
  go_wp2_with fail
  refine (hask_nil k r _).mono ?_
  rintro e w3 ⟨rfl, rfl⟩
  go_wp2_with fail
  refine (hsent_nil r _).mono ?_
  rintro e w4 ⟨rfl, rfl⟩
  go_wp2_with fail
  refine (hkeys_nil _).mono ?_
  rintro e w5 ⟨rfl, rfl⟩
  go_wp2_with fail
  go_ret
  exact ⟨rfl, b1⟩

end Go.Proofs.Ytmdkclgmibjlfaa.Ba
