/- The bank's laws' awake; a nil bank answers No, and has nothing. -/
import Derived.Test.YtmdkclgmibjlfaaBa
set_option linter.unusedVariables false
set_option linter.unusedSimpArgs false
namespace Go.Proofs.Ytmdkclgmibjlfaa.Ba
open Go.RowKit Go.Maps Go.Proofs.Ytmdkclgmibjlfaa.Mx Go.Proofs.Ytmdkclgmibjlfaa.Lib

theorem maxLen_big : 1000 < maxLen := by decide

set_option maxRecDepth 100000 in
theorem awake20 (w : World) : Calls Try.prog 32 #[] w fun e w' => e = .returned (.bool true) ∧ Below w.heap.size w w' := by
  go_enter Try.func32, Try.ntmps32
  go_wp2_with fail
  refine (new_any 10 w).mono ?_
  rintro e w1 ⟨rfl, h1, b1, s1⟩
  have h1 := Lib.hid h1
  have b1 := Lib.hid b1
  generalize hB : w.heap.size + 1 = B at *
  generalize hM : w.heap.size = M at *
  go_wp2_with fail
  refine (ask_new h1.out (k := 1) rfl (by decide) 1 5 (by decide) (by decide) (Y := true) (Lib.hid rfl) (all' := 5) (Lib.hid rfl)).mono ?_
  rintro e w2 ⟨rfl, b2, h2⟩
  have h2 := Lib.hid h2
  have b2 := Lib.hid b2
  go_wp2_with fail
  refine (ask_old h2.out (k := 1) (1, 5, true) (by simp) (by decide) 1 5).mono ?_
  rintro e w3 ⟨rfl, b3⟩
  have h3 := Lib.hid (h2.out.keep b3)
  have b3 := Lib.hid b3
  go_wp2_with fail
  refine (all_any h3.out).mono ?_
  rintro e w4 ⟨rfl, rfl⟩
  go_wp2_with fail
  refine (ask_new h3.out (k := 2) rfl (by decide) 1 11 (by decide) (by decide) (Y := false) (Lib.hid (by decide)) (all' := 5) (Lib.hid rfl)).mono ?_
  rintro e w5 ⟨rfl, b5, h5⟩
  go_wp2_with fail
  go_ret
  refine ⟨rfl, ?_⟩
  have hs := b1.out.size
  rw [hM]
  exact b1.out.trans ((((b2.out.trans (Chg.of_below b3.out)).trans b5)).below (by omega) (by omega) (Nat.le_refl _))

/-- A nil bank answers No, and has nothing. -/
theorem bankNil_walk (k r s : Int) (W : World) : Calls Try.prog 11 #[.int .i64 k, .int .i64 r, .int .i64 s] W fun e w' => e = .returned (.bool true) ∧ Below W.heap.size W w' := by
  go_enter Try.func11, Try.ntmps11
  go_wp2_with fail
  refine (awake20 W).mono ?_
  rintro e w1 ⟨rfl, b1⟩
  go_wp2_with fail
  refine (ask_nil k r s _).mono ?_
  rintro e w2 ⟨rfl, rfl⟩
  go_wp2_with fail
  refine (exec_nil r _).mono ?_
  rintro e w3 ⟨rfl, rfl⟩
  go_wp2_with fail
  refine (all_nil _).mono ?_
  rintro e w4 ⟨rfl, rfl⟩
  go_wp2_with fail
  refine (keys_nil _).mono ?_
  rintro e w5 ⟨rfl, rfl⟩
  go_wp2_with fail
  go_ret
  exact ⟨rfl, b1⟩

end Go.Proofs.Ytmdkclgmibjlfaa.Ba
