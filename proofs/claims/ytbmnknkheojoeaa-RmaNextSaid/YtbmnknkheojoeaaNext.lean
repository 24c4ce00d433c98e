/- For every state and every event, the program's next state is the table's, or both refuse; no condition. -/
import Derived.Test.YtbmnknkheojoeaaProg
import Derived.WalkKit
set_option linter.unusedVariables false
namespace Go.Proofs.Ytbmnknkheojoeaa.Nx
open Go.RowKit

def nxt (s b : Int) : Int :=
  if b = 1 ∧ s = 1 then 2 else if b = 2 ∧ s = 2 then 3 else if b = 3 ∧ s = 3 then 4 else if b = 4 ∧ s = 4 then 5 else if b = 5 ∧ s = 3 then 5
  else if b = 6 ∧ s = 5 then 6 else if (b = 7 ∨ b = 8 ∨ b = 9) ∧ (s = 1 ∨ s = 2) then b else 0
def nxe (s b : Int) : Int := if nxt s b = 0 then 8 else 0

set_option maxHeartbeats 1000000 in
theorem next_any (s b : Int) (w : World) : Calls Try.prog 9 #[.int .i64 s, .int .i64 b] w fun e w' => e = .returned (.tuple #[.int .i64 (nxt s b), .int .i64 (nxe s b)]) ∧ w = w' := by
  go_enter Try.func9, Try.ntmps9
  go_wp2
  all_goals
    go_ret2
    refine ⟨?_, rfl⟩
    first | rfl | (simp_all [nxt, nxe]; done) | skip

set_option maxHeartbeats 1000000 in
theorem ref_any (s b : Int) (w : World) : Calls Try.prog 10 #[.int .i64 s, .int .i64 b] w fun e w' => e = .returned (.int .i64 (nxt s b)) ∧ w = w' := by
  go_enter Try.func10, Try.ntmps10
  go_wp2
  all_goals
    go_ret
    refine ⟨?_, rfl⟩
    first | rfl | (simp_all [nxt]; done) | skip

theorem awake_any (w : World) : Calls Try.prog 8 #[] w fun e w' => e = .returned (.bool true) ∧ w = w' := by
  go_enter Try.func8, Try.ntmps8
  go_wp2_with (go_at_call 9; refine (next_any 1 1 _).mono ?_; rintro e w' ⟨rfl, rfl⟩)
  go_ret
  exact ⟨by simp [nxt], rfl⟩

theorem law_any (s b : Int) (w : World) : Calls Try.prog 3 #[.int .i64 s, .int .i64 b] w fun e w' => e = .returned (.bool true) ∧ Below w.heap.size w w' := by
  by_cases h : nxt s b = 0
  · have he : nxe s b = 8 := by simp [nxe, h]
    go_enter Try.func3, Try.ntmps3
    go_wp2_with (first | (go_at_call 8; refine (awake_any _).mono ?_; rintro e w' ⟨rfl, rfl⟩) | (go_at_call 9; refine (next_any _ _ _).mono ?_; rintro e w' ⟨rfl, rfl⟩) | (go_at_call 10; refine (ref_any _ _ _).mono ?_; rintro e w' ⟨rfl, rfl⟩))
    go_ret
    exact ⟨by simp, Below.refl _ _⟩
  · have he : nxe s b = 0 := by simp [nxe, h]
    go_enter Try.func3, Try.ntmps3
    go_wp2_with (first | (go_at_call 8; refine (awake_any _).mono ?_; rintro e w' ⟨rfl, rfl⟩) | (go_at_call 9; refine (next_any _ _ _).mono ?_; rintro e w' ⟨rfl, rfl⟩) | (go_at_call 10; refine (ref_any _ _ _).mono ?_; rintro e w' ⟨rfl, rfl⟩))
    go_ret
    exact ⟨by simp [h], Below.refl _ _⟩

end Go.Proofs.Ytbmnknkheojoeaa.Nx
