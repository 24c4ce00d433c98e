/- The stock: whether a unit moves; the document's answer. -/
import Derived.Test.YtmdkclgmibjlfaaCh
import Derived.Test.YtmdkclgmibjlfaaIn
import Derived.Test.YtmdkclgmibjlfaaSc
import Derived.LoopTactic
set_option linter.unusedVariables false
set_option linter.unusedSimpArgs false
namespace Go.Proofs.Ytmdkclgmibjlfaa.Ba
open Go.RowKit Go.Maps Go.Proofs.Ytmdkclgmibjlfaa.Mx Go.Proofs.Ytmdkclgmibjlfaa.Lib

theorem ints_new (w : World) (xs : List Int) (t : TypeId) : IntsAt (w.alloc (.cells (xs.map (Value.int .i64)).toArray t)) .i64 (some ⟨w.heap.size, 0, none⟩) xs.length (fun j => xs.getD j 0) ↔ xs.length ≤ 9223372036854775807 := by
  constructor
  · exact fun h => h.1
  · intro hl
    refine ⟨hl, fun _ => ⟨w.heap.size, 0, rfl, by simp, fun j hj => ?_⟩⟩
    have := heap_alloc_new w (.cells (xs.map (Value.int .i64)).toArray t)
    unfold World.cell?
    rw [show (w.alloc (.cells (xs.map (Value.int .i64)).toArray t)).heap[(⟨w.heap.size, 0 + j, none⟩ : Addr).block]? = _ from this]
    simp [List.getD, hj]

/-- Does a unit move so? -/
def mayS (f t : Int) : Bool :=
  if f = 0 then t == 1 else if f = 1 then t == 2 || t == 6 else if f = 2 then t == 3 || t == 4 || t == 5 || t == 8 else if f = 3 then t == 7 else if f = 7 then t == 3 || t == 8 else if f = 8 then t == 0 || t == 6 else false

def waysL (f : Int) : List Int :=
  if f = 0 then [1] else if f = 1 then [2, 6] else if f = 2 then [3, 4, 5, 8] else if f = 3 then [7] else if f = 7 then [3, 8] else if f = 8 then [0, 6] else []

theorem waysL_may (f t : Int) : (waysL f).contains t = mayS f t := by
  unfold waysL mayS
  repeat' split
  all_goals
    rw [Bool.eq_iff_iff, List.contains_iff_mem]
    simp [or_assoc]

theorem ways_any (f : Int) (w : World) : Calls Try.prog 45 #[.int .i64 f] w fun e w' => ∃ a c, e = .returned (.slice a (waysL f).length c) ∧ IntsAt w' .i64 a (waysL f).length (fun j => (waysL f).getD j 0) ∧ Below w.heap.size w w' := by
  by_cases h0 : f = 0
  · subst h0
    go_enter Try.func45, Try.ntmps45
    go_wp2_with fail
    go_ret
    exact ⟨_, _, rfl, (ints_new w [1] 3).2 (by decide), (Below.refl _ _).alloc (Nat.le_refl _) _⟩
  by_cases h1 : f = 1
  · subst h1
    go_enter Try.func45, Try.ntmps45
    go_wp2_with fail
    go_ret
    exact ⟨_, _, rfl, (ints_new w [2, 6] 3).2 (by decide), (Below.refl _ _).alloc (Nat.le_refl _) _⟩
  by_cases h2 : f = 2
  · subst h2
    go_enter Try.func45, Try.ntmps45
    go_wp2_with fail
    go_ret
    exact ⟨_, _, rfl, (ints_new w [3, 4, 5, 8] 3).2 (by decide), (Below.refl _ _).alloc (Nat.le_refl _) _⟩
  by_cases h3 : f = 3
  · subst h3
    go_enter Try.func45, Try.ntmps45
    go_wp2_with fail
    go_ret
    exact ⟨_, _, rfl, (ints_new w [7] 3).2 (by decide), (Below.refl _ _).alloc (Nat.le_refl _) _⟩
  by_cases h7 : f = 7
  · subst h7
    go_enter Try.func45, Try.ntmps45
    go_wp2_with fail
    go_ret
    exact ⟨_, _, rfl, (ints_new w [3, 8] 3).2 (by decide), (Below.refl _ _).alloc (Nat.le_refl _) _⟩
  by_cases h8 : f = 8
  · subst h8
    go_enter Try.func45, Try.ntmps45
    go_wp2_with fail
    go_ret
    exact ⟨_, _, rfl, (ints_new w [0, 6] 3).2 (by decide), (Below.refl _ _).alloc (Nat.le_refl _) _⟩
  have hL : waysL f = [] := by simp [waysL, h0, h1, h2, h3, h7, h8]
  rw [hL]
  have g0 : (f == 0) = false := by simpa using h0
  have g1 : (f == 1) = false := by simpa using h1
  have g2 : (f == 2) = false := by simpa using h2
  have g3 : (f == 3) = false := by simpa using h3
  have g7 : (f == 7) = false := by simpa using h7
  have g8 : (f == 8) = false := by simpa using h8
  clear h0 h1 h2 h3 h7 h8 hL
  go_enter Try.func45, Try.ntmps45
  go_wp2_with fail
  go_ret
  exact ⟨_, _, rfl, ⟨by decide, fun h => absurd h (by decide)⟩, Below.refl _ _⟩

theorem may_any (f t : Int) (w : World) : Calls Try.prog 15 #[.int .i64 f, .int .i64 t] w fun e w' => e = .returned (.bool (mayS f t)) ∧ Below w.heap.size w w' := by
  have hwc : Hid (memb (waysL f).length (fun j => (waysL f).getD j 0) t = mayS f t) := Lib.hid (by
    rw [← waysL_may]
    unfold memb
    congr 1
    apply List.ext_getElem
    · simp
    · intro i h1 h2
      simp [List.getD, h2])
  go_enter Try.func15, Try.ntmps15
  go_wp2_with fail
  refine (ways_any f w).mono ?_
  rintro e w1 ⟨a, c, rfl, hi, hb⟩
  have hi := Lib.hid hi
  go_wp2_with fail
  refine (contains_any hi.out t).mono ?_
  rintro e w2 ⟨rfl, rfl⟩
  rw [hwc.out]
  go_wp2_with fail
  go_ret
  exact ⟨rfl, hb⟩

set_option maxRecDepth 100000 in
theorem refmay_any (f t : Int) (w : World) : Calls Try.prog 16 #[.int .i64 f, .int .i64 t] w fun e w' => e = .returned (.bool (mayS f t)) ∧ w' = w := by
  by_cases h0 : f = 0
  · subst h0
    go_enter Try.func16, Try.ntmps16
    go_wp2_with fail
    go_ret
    exact ⟨by simp [mayS], rfl⟩
  by_cases h1 : f = 1
  · subst h1
    cases q1 : (t == 2) <;> cases q2 : (t == 6)
    all_goals
      go_enter Try.func16, Try.ntmps16
      go_wp2_with fail
      go_ret
      exact ⟨by simp [mayS, q1, q2], rfl⟩
  by_cases h2 : f = 2
  · subst h2
    cases q1 : (t == 3)
    · cases q2 : (t == 4)
      · cases q3 : (t == 5)
        · cases q4 : (t == 8)
          all_goals
            go_enter Try.func16, Try.ntmps16
            go_wp2_with fail
            go_ret
            exact ⟨by simp [mayS, q1, q2, q3, q4], rfl⟩
        · go_enter Try.func16, Try.ntmps16
          go_wp2_with fail
          go_ret
          exact ⟨by simp [mayS, q1, q2, q3], rfl⟩
      · go_enter Try.func16, Try.ntmps16
        go_wp2_with fail
        go_ret
        exact ⟨by simp [mayS, q1, q2], rfl⟩
    · go_enter Try.func16, Try.ntmps16
      go_wp2_with fail
      go_ret
      exact ⟨by simp [mayS, q1], rfl⟩
  by_cases h3 : f = 3
  · subst h3
    go_enter Try.func16, Try.ntmps16
    go_wp2_with fail
    go_ret
    exact ⟨by simp [mayS], rfl⟩
  by_cases h7 : f = 7
  · subst h7
    cases q1 : (t == 3) <;> cases q2 : (t == 8)
    all_goals
      go_enter Try.func16, Try.ntmps16
      go_wp2_with fail
      go_ret
      exact ⟨by simp [mayS, q1, q2], rfl⟩
  by_cases h8 : f = 8
  · subst h8
    cases q1 : (t == 0) <;> cases q2 : (t == 6)
    all_goals
      go_enter Try.func16, Try.ntmps16
      go_wp2_with fail
      go_ret
      exact ⟨by simp [mayS, q1, q2], rfl⟩
  have hL : mayS f t = false := by simp [mayS, h0, h1, h2, h3, h7, h8]
  rw [hL]
  have g0 : (f == 0) = false := by simpa using h0
  have g1 : (f == 1) = false := by simpa using h1
  have g2 : (f == 2) = false := by simpa using h2
  have g3 : (f == 3) = false := by simpa using h3
  have g7 : (f == 7) = false := by simpa using h7
  have g8 : (f == 8) = false := by simpa using h8
  clear h0 h1 h2 h3 h7 h8 hL
  go_enter Try.func16, Try.ntmps16
  go_wp2_with fail
  go_ret
  exact ⟨rfl, rfl⟩

end Go.Proofs.Ytmdkclgmibjlfaa.Ba
