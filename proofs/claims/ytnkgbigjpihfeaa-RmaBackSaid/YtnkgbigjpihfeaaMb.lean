/- rma.Equal and recouplaw14.Same: two returns are alike just where every field is. -/
import Derived.Test.YtnkgbigjpihfeaaMa
set_option linter.unusedVariables false
set_option linter.unusedSimpArgs false
namespace Go.Proofs.Ytnkgbigjpihfeaa.Ma
open Go.RowKit Go.Proofs.Ytnkgbigjpihfeaa.Lib

theorem bcell {W w1 : World} (hb : Below W.heap.size W w1) : (∀ b o, b < W.heap.size → w1.cell? ⟨b, o, none⟩ = W.cell? ⟨b, o, none⟩) ∧ (∀ b o, b < W.heap.size → w1.frozen? ⟨b, o, none⟩ = W.frozen? ⟨b, o, none⟩) :=
  ⟨fun b o h => hb.cell (p := ⟨b, o, none⟩) h, fun b o h => hb.frozen (p := ⟨b, o, none⟩) h⟩
theorem below_le {B B' : Nat} {w w' : World} (h : Below B w w') (hb : B' ≤ B) : Below B' w w' := ⟨h.os, h.tape, h.output, h.size, fun k hk => h.block k (by omega)⟩
theorem below_dn (B : Nat) (w : World) (n : Nat) : Below B w (w.drewN n) := ⟨rfl, rfl, rfl, Nat.le_refl _, fun _ _ => rfl⟩

def eqR (x0 x1 x2 x3 x4 x6 x7 x10 x11 x12 x13 : Int) (x5 : Bool) (xa xd : Option Addr) (xn xc xm xe : Nat) (xF xG : Nat → Int) (y0 y1 y2 y3 y4 y6 y7 y10 y11 y12 y13 : Int) (y5 : Bool) (ya yd : Option Addr) (yn yc ym ye : Nat) (yF yG : Nat → Int) : Bool :=
  (x0 == y0) && (x1 == y1) && (x2 == y2) && (x3 == y3) && (x4 == y4) && (x5 == y5) && (x6 == y6) && (x7 == y7) && sameB xn xF yn yF && sameB xm xG ym yG && (x10 == y10) && (x11 == y11) && (x12 == y12) && (x13 == y13)

set_option maxRecDepth 100000 in
set_option maxHeartbeats 1600000 in
theorem equal_any_0 (x0 x1 x2 x3 x4 x6 x7 x10 x11 x12 x13 : Int) (x5 : Bool) (xa xd : Option Addr) (xn xc xm xe : Nat) (xF xG : Nat → Int) (y0 y1 y2 y3 y4 y6 y7 y10 y11 y12 y13 : Int) (y5 : Bool) (ya yd : Option Addr) (yn yc ym ye : Nat) (yF yG : Nat → Int) (w : World) (C1 : Hid (∀ w', Below w.heap.size w w' → Calls Try.prog 73 #[.slice xa xn xc, .slice ya yn yc] w' fun e w'' => e = .returned (.bool (sameB xn xF yn yF)) ∧ ∃ q, w'' = w'.drewN q)) (C2 : Hid (∀ w', Below w.heap.size w w' → Calls Try.prog 73 #[.slice xd xm xe, .slice yd ym ye] w' fun e w'' => e = .returned (.bool (sameB xm xG ym yG)) ∧ ∃ q, w'' = w'.drewN q)) (hk : (x0 == y0) = false) :
    Calls Try.prog 50 #[.agg #[.int .i64 x0, .int .i64 x1, .int .i64 x2, .int .i64 x3, .int .i64 x4, .bool x5, .int .i64 x6, .int .i64 x7, .slice xa xn xc, .slice xd xm xe, .int .i64 x10, .int .i64 x11, .int .i64 x12, .int .i64 x13], .agg #[.int .i64 y0, .int .i64 y1, .int .i64 y2, .int .i64 y3, .int .i64 y4, .bool y5, .int .i64 y6, .int .i64 y7, .slice ya yn yc, .slice yd ym ye, .int .i64 y10, .int .i64 y11, .int .i64 y12, .int .i64 y13]] w fun e w' => e = .returned (.bool false) ∧ Below w.heap.size w w' := by
  go_enter Try.func50, Try.ntmps50
  go_wp2_with fail
  go_ret
  exact ⟨by simp, ((Below.refl _ _).alloc (Nat.le_refl _) _).alloc (by simp) _⟩

set_option maxRecDepth 100000 in
set_option maxHeartbeats 1600000 in
theorem equal_any_1 (x0 x1 x2 x3 x4 x6 x7 x10 x11 x12 x13 : Int) (x5 : Bool) (xa xd : Option Addr) (xn xc xm xe : Nat) (xF xG : Nat → Int) (y0 y1 y2 y3 y4 y6 y7 y10 y11 y12 y13 : Int) (y5 : Bool) (ya yd : Option Addr) (yn yc ym ye : Nat) (yF yG : Nat → Int) (w : World) (C1 : Hid (∀ w', Below w.heap.size w w' → Calls Try.prog 73 #[.slice xa xn xc, .slice ya yn yc] w' fun e w'' => e = .returned (.bool (sameB xn xF yn yF)) ∧ ∃ q, w'' = w'.drewN q)) (C2 : Hid (∀ w', Below w.heap.size w w' → Calls Try.prog 73 #[.slice xd xm xe, .slice yd ym ye] w' fun e w'' => e = .returned (.bool (sameB xm xG ym yG)) ∧ ∃ q, w'' = w'.drewN q)) (hk : (x1 == y1) = false) :
    Calls Try.prog 50 #[.agg #[.int .i64 x0, .int .i64 x1, .int .i64 x2, .int .i64 x3, .int .i64 x4, .bool x5, .int .i64 x6, .int .i64 x7, .slice xa xn xc, .slice xd xm xe, .int .i64 x10, .int .i64 x11, .int .i64 x12, .int .i64 x13], .agg #[.int .i64 x0, .int .i64 y1, .int .i64 y2, .int .i64 y3, .int .i64 y4, .bool y5, .int .i64 y6, .int .i64 y7, .slice ya yn yc, .slice yd ym ye, .int .i64 y10, .int .i64 y11, .int .i64 y12, .int .i64 y13]] w fun e w' => e = .returned (.bool false) ∧ Below w.heap.size w w' := by
  go_enter Try.func50, Try.ntmps50
  go_wp2_with fail
  go_ret
  exact ⟨by simp, ((Below.refl _ _).alloc (Nat.le_refl _) _).alloc (by simp) _⟩

set_option maxRecDepth 100000 in
set_option maxHeartbeats 1600000 in
theorem equal_any_2 (x0 x1 x2 x3 x4 x6 x7 x10 x11 x12 x13 : Int) (x5 : Bool) (xa xd : Option Addr) (xn xc xm xe : Nat) (xF xG : Nat → Int) (y0 y1 y2 y3 y4 y6 y7 y10 y11 y12 y13 : Int) (y5 : Bool) (ya yd : Option Addr) (yn yc ym ye : Nat) (yF yG : Nat → Int) (w : World) (C1 : Hid (∀ w', Below w.heap.size w w' → Calls Try.prog 73 #[.slice xa xn xc, .slice ya yn yc] w' fun e w'' => e = .returned (.bool (sameB xn xF yn yF)) ∧ ∃ q, w'' = w'.drewN q)) (C2 : Hid (∀ w', Below w.heap.size w w' → Calls Try.prog 73 #[.slice xd xm xe, .slice yd ym ye] w' fun e w'' => e = .returned (.bool (sameB xm xG ym yG)) ∧ ∃ q, w'' = w'.drewN q)) (hk : (x2 == y2) = false) :
    Calls Try.prog 50 #[.agg #[.int .i64 x0, .int .i64 x1, .int .i64 x2, .int .i64 x3, .int .i64 x4, .bool x5, .int .i64 x6, .int .i64 x7, .slice xa xn xc, .slice xd xm xe, .int .i64 x10, .int .i64 x11, .int .i64 x12, .int .i64 x13], .agg #[.int .i64 x0, .int .i64 x1, .int .i64 y2, .int .i64 y3, .int .i64 y4, .bool y5, .int .i64 y6, .int .i64 y7, .slice ya yn yc, .slice yd ym ye, .int .i64 y10, .int .i64 y11, .int .i64 y12, .int .i64 y13]] w fun e w' => e = .returned (.bool false) ∧ Below w.heap.size w w' := by
  go_enter Try.func50, Try.ntmps50
  go_wp2_with fail
  go_ret
  exact ⟨by simp, ((Below.refl _ _).alloc (Nat.le_refl _) _).alloc (by simp) _⟩

set_option maxRecDepth 100000 in
set_option maxHeartbeats 1600000 in
theorem equal_any_3 (x0 x1 x2 x3 x4 x6 x7 x10 x11 x12 x13 : Int) (x5 : Bool) (xa xd : Option Addr) (xn xc xm xe : Nat) (xF xG : Nat → Int) (y0 y1 y2 y3 y4 y6 y7 y10 y11 y12 y13 : Int) (y5 : Bool) (ya yd : Option Addr) (yn yc ym ye : Nat) (yF yG : Nat → Int) (w : World) (C1 : Hid (∀ w', Below w.heap.size w w' → Calls Try.prog 73 #[.slice xa xn xc, .slice ya yn yc] w' fun e w'' => e = .returned (.bool (sameB xn xF yn yF)) ∧ ∃ q, w'' = w'.drewN q)) (C2 : Hid (∀ w', Below w.heap.size w w' → Calls Try.prog 73 #[.slice xd xm xe, .slice yd ym ye] w' fun e w'' => e = .returned (.bool (sameB xm xG ym yG)) ∧ ∃ q, w'' = w'.drewN q)) (hk : (x3 == y3) = false) :
    Calls Try.prog 50 #[.agg #[.int .i64 x0, .int .i64 x1, .int .i64 x2, .int .i64 x3, .int .i64 x4, .bool x5, .int .i64 x6, .int .i64 x7, .slice xa xn xc, .slice xd xm xe, .int .i64 x10, .int .i64 x11, .int .i64 x12, .int .i64 x13], .agg #[.int .i64 x0, .int .i64 x1, .int .i64 x2, .int .i64 y3, .int .i64 y4, .bool y5, .int .i64 y6, .int .i64 y7, .slice ya yn yc, .slice yd ym ye, .int .i64 y10, .int .i64 y11, .int .i64 y12, .int .i64 y13]] w fun e w' => e = .returned (.bool false) ∧ Below w.heap.size w w' := by
  go_enter Try.func50, Try.ntmps50
  go_wp2_with fail
  go_ret
  exact ⟨by simp, ((Below.refl _ _).alloc (Nat.le_refl _) _).alloc (by simp) _⟩

set_option maxRecDepth 100000 in
set_option maxHeartbeats 1600000 in
theorem equal_any_4 (x0 x1 x2 x3 x4 x6 x7 x10 x11 x12 x13 : Int) (x5 : Bool) (xa xd : Option Addr) (xn xc xm xe : Nat) (xF xG : Nat → Int) (y0 y1 y2 y3 y4 y6 y7 y10 y11 y12 y13 : Int) (y5 : Bool) (ya yd : Option Addr) (yn yc ym ye : Nat) (yF yG : Nat → Int) (w : World) (C1 : Hid (∀ w', Below w.heap.size w w' → Calls Try.prog 73 #[.slice xa xn xc, .slice ya yn yc] w' fun e w'' => e = .returned (.bool (sameB xn xF yn yF)) ∧ ∃ q, w'' = w'.drewN q)) (C2 : Hid (∀ w', Below w.heap.size w w' → Calls Try.prog 73 #[.slice xd xm xe, .slice yd ym ye] w' fun e w'' => e = .returned (.bool (sameB xm xG ym yG)) ∧ ∃ q, w'' = w'.drewN q)) (hk : (x4 == y4) = false) :
    Calls Try.prog 50 #[.agg #[.int .i64 x0, .int .i64 x1, .int .i64 x2, .int .i64 x3, .int .i64 x4, .bool x5, .int .i64 x6, .int .i64 x7, .slice xa xn xc, .slice xd xm xe, .int .i64 x10, .int .i64 x11, .int .i64 x12, .int .i64 x13], .agg #[.int .i64 x0, .int .i64 x1, .int .i64 x2, .int .i64 x3, .int .i64 y4, .bool y5, .int .i64 y6, .int .i64 y7, .slice ya yn yc, .slice yd ym ye, .int .i64 y10, .int .i64 y11, .int .i64 y12, .int .i64 y13]] w fun e w' => e = .returned (.bool false) ∧ Below w.heap.size w w' := by
  go_enter Try.func50, Try.ntmps50
  go_wp2_with fail
  go_ret
  exact ⟨by simp, ((Below.refl _ _).alloc (Nat.le_refl _) _).alloc (by simp) _⟩

set_option maxRecDepth 100000 in
set_option maxHeartbeats 1600000 in
theorem equal_any_5 (x0 x1 x2 x3 x4 x6 x7 x10 x11 x12 x13 : Int) (x5 : Bool) (xa xd : Option Addr) (xn xc xm xe : Nat) (xF xG : Nat → Int) (y0 y1 y2 y3 y4 y6 y7 y10 y11 y12 y13 : Int) (y5 : Bool) (ya yd : Option Addr) (yn yc ym ye : Nat) (yF yG : Nat → Int) (w : World) (C1 : Hid (∀ w', Below w.heap.size w w' → Calls Try.prog 73 #[.slice xa xn xc, .slice ya yn yc] w' fun e w'' => e = .returned (.bool (sameB xn xF yn yF)) ∧ ∃ q, w'' = w'.drewN q)) (C2 : Hid (∀ w', Below w.heap.size w w' → Calls Try.prog 73 #[.slice xd xm xe, .slice yd ym ye] w' fun e w'' => e = .returned (.bool (sameB xm xG ym yG)) ∧ ∃ q, w'' = w'.drewN q)) :
    Calls Try.prog 50 #[.agg #[.int .i64 x0, .int .i64 x1, .int .i64 x2, .int .i64 x3, .int .i64 x4, .bool x5, .int .i64 x6, .int .i64 x7, .slice xa xn xc, .slice xd xm xe, .int .i64 x10, .int .i64 x11, .int .i64 x12, .int .i64 x13], .agg #[.int .i64 x0, .int .i64 x1, .int .i64 x2, .int .i64 x3, .int .i64 x4, .bool (!x5), .int .i64 y6, .int .i64 y7, .slice ya yn yc, .slice yd ym ye, .int .i64 y10, .int .i64 y11, .int .i64 y12, .int .i64 y13]] w fun e w' => e = .returned (.bool false) ∧ Below w.heap.size w w' := by
  cases x5
  all_goals
    go_enter Try.func50, Try.ntmps50
    go_wp2_with fail
    go_ret
    exact ⟨by simp, ((Below.refl _ _).alloc (Nat.le_refl _) _).alloc (by simp) _⟩

set_option maxRecDepth 100000 in
set_option maxHeartbeats 1600000 in
theorem equal_any_6 (x0 x1 x2 x3 x4 x6 x7 x10 x11 x12 x13 : Int) (x5 : Bool) (xa xd : Option Addr) (xn xc xm xe : Nat) (xF xG : Nat → Int) (y0 y1 y2 y3 y4 y6 y7 y10 y11 y12 y13 : Int) (y5 : Bool) (ya yd : Option Addr) (yn yc ym ye : Nat) (yF yG : Nat → Int) (w : World) (C1 : Hid (∀ w', Below w.heap.size w w' → Calls Try.prog 73 #[.slice xa xn xc, .slice ya yn yc] w' fun e w'' => e = .returned (.bool (sameB xn xF yn yF)) ∧ ∃ q, w'' = w'.drewN q)) (C2 : Hid (∀ w', Below w.heap.size w w' → Calls Try.prog 73 #[.slice xd xm xe, .slice yd ym ye] w' fun e w'' => e = .returned (.bool (sameB xm xG ym yG)) ∧ ∃ q, w'' = w'.drewN q)) (hk : (x6 == y6) = false) :
    Calls Try.prog 50 #[.agg #[.int .i64 x0, .int .i64 x1, .int .i64 x2, .int .i64 x3, .int .i64 x4, .bool x5, .int .i64 x6, .int .i64 x7, .slice xa xn xc, .slice xd xm xe, .int .i64 x10, .int .i64 x11, .int .i64 x12, .int .i64 x13], .agg #[.int .i64 x0, .int .i64 x1, .int .i64 x2, .int .i64 x3, .int .i64 x4, .bool x5, .int .i64 y6, .int .i64 y7, .slice ya yn yc, .slice yd ym ye, .int .i64 y10, .int .i64 y11, .int .i64 y12, .int .i64 y13]] w fun e w' => e = .returned (.bool false) ∧ Below w.heap.size w w' := by
  go_enter Try.func50, Try.ntmps50
  go_wp2_with fail
  go_ret
  exact ⟨by simp, ((Below.refl _ _).alloc (Nat.le_refl _) _).alloc (by simp) _⟩

set_option maxRecDepth 100000 in
set_option maxHeartbeats 1600000 in
theorem equal_any_7 (x0 x1 x2 x3 x4 x6 x7 x10 x11 x12 x13 : Int) (x5 : Bool) (xa xd : Option Addr) (xn xc xm xe : Nat) (xF xG : Nat → Int) (y0 y1 y2 y3 y4 y6 y7 y10 y11 y12 y13 : Int) (y5 : Bool) (ya yd : Option Addr) (yn yc ym ye : Nat) (yF yG : Nat → Int) (w : World) (C1 : Hid (∀ w', Below w.heap.size w w' → Calls Try.prog 73 #[.slice xa xn xc, .slice ya yn yc] w' fun e w'' => e = .returned (.bool (sameB xn xF yn yF)) ∧ ∃ q, w'' = w'.drewN q)) (C2 : Hid (∀ w', Below w.heap.size w w' → Calls Try.prog 73 #[.slice xd xm xe, .slice yd ym ye] w' fun e w'' => e = .returned (.bool (sameB xm xG ym yG)) ∧ ∃ q, w'' = w'.drewN q)) (hk : (x7 == y7) = false) :
    Calls Try.prog 50 #[.agg #[.int .i64 x0, .int .i64 x1, .int .i64 x2, .int .i64 x3, .int .i64 x4, .bool x5, .int .i64 x6, .int .i64 x7, .slice xa xn xc, .slice xd xm xe, .int .i64 x10, .int .i64 x11, .int .i64 x12, .int .i64 x13], .agg #[.int .i64 x0, .int .i64 x1, .int .i64 x2, .int .i64 x3, .int .i64 x4, .bool x5, .int .i64 x6, .int .i64 y7, .slice ya yn yc, .slice yd ym ye, .int .i64 y10, .int .i64 y11, .int .i64 y12, .int .i64 y13]] w fun e w' => e = .returned (.bool false) ∧ Below w.heap.size w w' := by
  go_enter Try.func50, Try.ntmps50
  go_wp2_with fail
  go_ret
  exact ⟨by simp, ((Below.refl _ _).alloc (Nat.le_refl _) _).alloc (by simp) _⟩

set_option maxRecDepth 100000 in
set_option maxHeartbeats 1600000 in
theorem equal_any_8 (x0 x1 x2 x3 x4 x6 x7 x10 x11 x12 x13 : Int) (x5 : Bool) (xa xd : Option Addr) (xn xc xm xe : Nat) (xF xG : Nat → Int) (y0 y1 y2 y3 y4 y6 y7 y10 y11 y12 y13 : Int) (y5 : Bool) (ya yd : Option Addr) (yn yc ym ye : Nat) (yF yG : Nat → Int) (w : World) (C1 : Hid (∀ w', Below w.heap.size w w' → Calls Try.prog 73 #[.slice xa xn xc, .slice ya yn yc] w' fun e w'' => e = .returned (.bool (sameB xn xF yn yF)) ∧ ∃ q, w'' = w'.drewN q)) (C2 : Hid (∀ w', Below w.heap.size w w' → Calls Try.prog 73 #[.slice xd xm xe, .slice yd ym ye] w' fun e w'' => e = .returned (.bool (sameB xm xG ym yG)) ∧ ∃ q, w'' = w'.drewN q)) (hs : sameB xn xF yn yF = false) :
    Calls Try.prog 50 #[.agg #[.int .i64 x0, .int .i64 x1, .int .i64 x2, .int .i64 x3, .int .i64 x4, .bool x5, .int .i64 x6, .int .i64 x7, .slice xa xn xc, .slice xd xm xe, .int .i64 x10, .int .i64 x11, .int .i64 x12, .int .i64 x13], .agg #[.int .i64 x0, .int .i64 x1, .int .i64 x2, .int .i64 x3, .int .i64 x4, .bool x5, .int .i64 x6, .int .i64 x7, .slice ya yn yc, .slice yd ym ye, .int .i64 y10, .int .i64 y11, .int .i64 y12, .int .i64 y13]] w fun e w' => e = .returned (.bool false) ∧ Below w.heap.size w w' := by
  rw [hs] at C1
  clear hs
  go_enter Try.func50, Try.ntmps50
  go_wp2_with fail
  refine (C1.out _ (((Below.refl _ _).alloc (Nat.le_refl _) _).alloc (by simp) _)).mono ?_
  rintro e w1 ⟨rfl, q1, rfl⟩
  go_wp2_with fail
  go_ret
  exact ⟨by simp, (((Below.refl _ _).alloc (Nat.le_refl _) _).alloc (by simp) _).trans (below_dn _ _ _)⟩

set_option maxRecDepth 100000 in
set_option maxHeartbeats 1600000 in
theorem equal_any_9 (x0 x1 x2 x3 x4 x6 x7 x10 x11 x12 x13 : Int) (x5 : Bool) (xa xd : Option Addr) (xn xc xm xe : Nat) (xF xG : Nat → Int) (y0 y1 y2 y3 y4 y6 y7 y10 y11 y12 y13 : Int) (y5 : Bool) (ya yd : Option Addr) (yn yc ym ye : Nat) (yF yG : Nat → Int) (w : World) (C1 : Hid (∀ w', Below w.heap.size w w' → Calls Try.prog 73 #[.slice xa xn xc, .slice ya yn yc] w' fun e w'' => e = .returned (.bool (sameB xn xF yn yF)) ∧ ∃ q, w'' = w'.drewN q)) (C2 : Hid (∀ w', Below w.heap.size w w' → Calls Try.prog 73 #[.slice xd xm xe, .slice yd ym ye] w' fun e w'' => e = .returned (.bool (sameB xm xG ym yG)) ∧ ∃ q, w'' = w'.drewN q)) (hs : sameB xn xF yn yF = true) (ht : sameB xm xG ym yG = false) :
    Calls Try.prog 50 #[.agg #[.int .i64 x0, .int .i64 x1, .int .i64 x2, .int .i64 x3, .int .i64 x4, .bool x5, .int .i64 x6, .int .i64 x7, .slice xa xn xc, .slice xd xm xe, .int .i64 x10, .int .i64 x11, .int .i64 x12, .int .i64 x13], .agg #[.int .i64 x0, .int .i64 x1, .int .i64 x2, .int .i64 x3, .int .i64 x4, .bool x5, .int .i64 x6, .int .i64 x7, .slice ya yn yc, .slice yd ym ye, .int .i64 y10, .int .i64 y11, .int .i64 y12, .int .i64 y13]] w fun e w' => e = .returned (.bool false) ∧ Below w.heap.size w w' := by
  rw [hs] at C1
  clear hs
  rw [ht] at C2
  clear ht
  go_enter Try.func50, Try.ntmps50
  go_wp2_with fail
  refine (C1.out _ (((Below.refl _ _).alloc (Nat.le_refl _) _).alloc (by simp) _)).mono ?_
  rintro e w1 ⟨rfl, q1, rfl⟩
  go_wp2_with fail
  refine (C2.out _ ((((Below.refl _ _).alloc (Nat.le_refl _) _).alloc (by simp) _).trans (below_dn _ _ _))).mono ?_
  rintro e w2 ⟨rfl, q2, rfl⟩
  go_wp2_with fail
  go_ret
  exact ⟨by simp, (((Below.refl _ _).alloc (Nat.le_refl _) _).alloc (by simp) _).trans (below_dn _ _ _)⟩

set_option maxRecDepth 100000 in
set_option maxHeartbeats 1600000 in
theorem equal_any_10 (x0 x1 x2 x3 x4 x6 x7 x10 x11 x12 x13 : Int) (x5 : Bool) (xa xd : Option Addr) (xn xc xm xe : Nat) (xF xG : Nat → Int) (y0 y1 y2 y3 y4 y6 y7 y10 y11 y12 y13 : Int) (y5 : Bool) (ya yd : Option Addr) (yn yc ym ye : Nat) (yF yG : Nat → Int) (w : World) (C1 : Hid (∀ w', Below w.heap.size w w' → Calls Try.prog 73 #[.slice xa xn xc, .slice ya yn yc] w' fun e w'' => e = .returned (.bool (sameB xn xF yn yF)) ∧ ∃ q, w'' = w'.drewN q)) (C2 : Hid (∀ w', Below w.heap.size w w' → Calls Try.prog 73 #[.slice xd xm xe, .slice yd ym ye] w' fun e w'' => e = .returned (.bool (sameB xm xG ym yG)) ∧ ∃ q, w'' = w'.drewN q)) (hk : (x10 == y10) = false) (hs : sameB xn xF yn yF = true) (ht : sameB xm xG ym yG = true) :
    Calls Try.prog 50 #[.agg #[.int .i64 x0, .int .i64 x1, .int .i64 x2, .int .i64 x3, .int .i64 x4, .bool x5, .int .i64 x6, .int .i64 x7, .slice xa xn xc, .slice xd xm xe, .int .i64 x10, .int .i64 x11, .int .i64 x12, .int .i64 x13], .agg #[.int .i64 x0, .int .i64 x1, .int .i64 x2, .int .i64 x3, .int .i64 x4, .bool x5, .int .i64 x6, .int .i64 x7, .slice ya yn yc, .slice yd ym ye, .int .i64 y10, .int .i64 y11, .int .i64 y12, .int .i64 y13]] w fun e w' => e = .returned (.bool false) ∧ Below w.heap.size w w' := by
  rw [hs] at C1
  clear hs
  rw [ht] at C2
  clear ht
  go_enter Try.func50, Try.ntmps50
  go_wp2_with fail
  refine (C1.out _ (((Below.refl _ _).alloc (Nat.le_refl _) _).alloc (by simp) _)).mono ?_
  rintro e w1 ⟨rfl, q1, rfl⟩
  go_wp2_with fail
  refine (C2.out _ ((((Below.refl _ _).alloc (Nat.le_refl _) _).alloc (by simp) _).trans (below_dn _ _ _))).mono ?_
  rintro e w2 ⟨rfl, q2, rfl⟩
  go_wp2_with fail
  go_ret
  exact ⟨by simp, (((Below.refl _ _).alloc (Nat.le_refl _) _).alloc (by simp) _).trans (below_dn _ _ _)⟩

set_option maxRecDepth 100000 in
set_option maxHeartbeats 1600000 in
theorem equal_any_11 (x0 x1 x2 x3 x4 x6 x7 x10 x11 x12 x13 : Int) (x5 : Bool) (xa xd : Option Addr) (xn xc xm xe : Nat) (xF xG : Nat → Int) (y0 y1 y2 y3 y4 y6 y7 y10 y11 y12 y13 : Int) (y5 : Bool) (ya yd : Option Addr) (yn yc ym ye : Nat) (yF yG : Nat → Int) (w : World) (C1 : Hid (∀ w', Below w.heap.size w w' → Calls Try.prog 73 #[.slice xa xn xc, .slice ya yn yc] w' fun e w'' => e = .returned (.bool (sameB xn xF yn yF)) ∧ ∃ q, w'' = w'.drewN q)) (C2 : Hid (∀ w', Below w.heap.size w w' → Calls Try.prog 73 #[.slice xd xm xe, .slice yd ym ye] w' fun e w'' => e = .returned (.bool (sameB xm xG ym yG)) ∧ ∃ q, w'' = w'.drewN q)) (hk : (x11 == y11) = false) (hs : sameB xn xF yn yF = true) (ht : sameB xm xG ym yG = true) :
    Calls Try.prog 50 #[.agg #[.int .i64 x0, .int .i64 x1, .int .i64 x2, .int .i64 x3, .int .i64 x4, .bool x5, .int .i64 x6, .int .i64 x7, .slice xa xn xc, .slice xd xm xe, .int .i64 x10, .int .i64 x11, .int .i64 x12, .int .i64 x13], .agg #[.int .i64 x0, .int .i64 x1, .int .i64 x2, .int .i64 x3, .int .i64 x4, .bool x5, .int .i64 x6, .int .i64 x7, .slice ya yn yc, .slice yd ym ye, .int .i64 x10, .int .i64 y11, .int .i64 y12, .int .i64 y13]] w fun e w' => e = .returned (.bool false) ∧ Below w.heap.size w w' := by
  rw [hs] at C1
  clear hs
  rw [ht] at C2
  clear ht
  go_enter Try.func50, Try.ntmps50
  go_wp2_with fail
  refine (C1.out _ (((Below.refl _ _).alloc (Nat.le_refl _) _).alloc (by simp) _)).mono ?_
  rintro e w1 ⟨rfl, q1, rfl⟩
  go_wp2_with fail
  refine (C2.out _ ((((Below.refl _ _).alloc (Nat.le_refl _) _).alloc (by simp) _).trans (below_dn _ _ _))).mono ?_
  rintro e w2 ⟨rfl, q2, rfl⟩
  go_wp2_with fail
  go_ret
  exact ⟨by simp, (((Below.refl _ _).alloc (Nat.le_refl _) _).alloc (by simp) _).trans (below_dn _ _ _)⟩

set_option maxRecDepth 100000 in
set_option maxHeartbeats 1600000 in
theorem equal_any_12 (x0 x1 x2 x3 x4 x6 x7 x10 x11 x12 x13 : Int) (x5 : Bool) (xa xd : Option Addr) (xn xc xm xe : Nat) (xF xG : Nat → Int) (y0 y1 y2 y3 y4 y6 y7 y10 y11 y12 y13 : Int) (y5 : Bool) (ya yd : Option Addr) (yn yc ym ye : Nat) (yF yG : Nat → Int) (w : World) (C1 : Hid (∀ w', Below w.heap.size w w' → Calls Try.prog 73 #[.slice xa xn xc, .slice ya yn yc] w' fun e w'' => e = .returned (.bool (sameB xn xF yn yF)) ∧ ∃ q, w'' = w'.drewN q)) (C2 : Hid (∀ w', Below w.heap.size w w' → Calls Try.prog 73 #[.slice xd xm xe, .slice yd ym ye] w' fun e w'' => e = .returned (.bool (sameB xm xG ym yG)) ∧ ∃ q, w'' = w'.drewN q)) (hk : (x12 == y12) = false) (hs : sameB xn xF yn yF = true) (ht : sameB xm xG ym yG = true) :
    Calls Try.prog 50 #[.agg #[.int .i64 x0, .int .i64 x1, .int .i64 x2, .int .i64 x3, .int .i64 x4, .bool x5, .int .i64 x6, .int .i64 x7, .slice xa xn xc, .slice xd xm xe, .int .i64 x10, .int .i64 x11, .int .i64 x12, .int .i64 x13], .agg #[.int .i64 x0, .int .i64 x1, .int .i64 x2, .int .i64 x3, .int .i64 x4, .bool x5, .int .i64 x6, .int .i64 x7, .slice ya yn yc, .slice yd ym ye, .int .i64 x10, .int .i64 x11, .int .i64 y12, .int .i64 y13]] w fun e w' => e = .returned (.bool false) ∧ Below w.heap.size w w' := by
  rw [hs] at C1
  clear hs
  rw [ht] at C2
  clear ht
  go_enter Try.func50, Try.ntmps50
  go_wp2_with fail
  refine (C1.out _ (((Below.refl _ _).alloc (Nat.le_refl _) _).alloc (by simp) _)).mono ?_
  rintro e w1 ⟨rfl, q1, rfl⟩
  go_wp2_with fail
  refine (C2.out _ ((((Below.refl _ _).alloc (Nat.le_refl _) _).alloc (by simp) _).trans (below_dn _ _ _))).mono ?_
  rintro e w2 ⟨rfl, q2, rfl⟩
  go_wp2_with fail
  go_ret
  exact ⟨by simp, (((Below.refl _ _).alloc (Nat.le_refl _) _).alloc (by simp) _).trans (below_dn _ _ _)⟩

set_option maxRecDepth 100000 in
set_option maxHeartbeats 1600000 in
theorem equal_any_13 (x0 x1 x2 x3 x4 x6 x7 x10 x11 x12 x13 : Int) (x5 : Bool) (xa xd : Option Addr) (xn xc xm xe : Nat) (xF xG : Nat → Int) (y0 y1 y2 y3 y4 y6 y7 y10 y11 y12 y13 : Int) (y5 : Bool) (ya yd : Option Addr) (yn yc ym ye : Nat) (yF yG : Nat → Int) (w : World) (C1 : Hid (∀ w', Below w.heap.size w w' → Calls Try.prog 73 #[.slice xa xn xc, .slice ya yn yc] w' fun e w'' => e = .returned (.bool (sameB xn xF yn yF)) ∧ ∃ q, w'' = w'.drewN q)) (C2 : Hid (∀ w', Below w.heap.size w w' → Calls Try.prog 73 #[.slice xd xm xe, .slice yd ym ye] w' fun e w'' => e = .returned (.bool (sameB xm xG ym yG)) ∧ ∃ q, w'' = w'.drewN q)) (hk : (x13 == y13) = false) (hs : sameB xn xF yn yF = true) (ht : sameB xm xG ym yG = true) :
    Calls Try.prog 50 #[.agg #[.int .i64 x0, .int .i64 x1, .int .i64 x2, .int .i64 x3, .int .i64 x4, .bool x5, .int .i64 x6, .int .i64 x7, .slice xa xn xc, .slice xd xm xe, .int .i64 x10, .int .i64 x11, .int .i64 x12, .int .i64 x13], .agg #[.int .i64 x0, .int .i64 x1, .int .i64 x2, .int .i64 x3, .int .i64 x4, .bool x5, .int .i64 x6, .int .i64 x7, .slice ya yn yc, .slice yd ym ye, .int .i64 x10, .int .i64 x11, .int .i64 x12, .int .i64 y13]] w fun e w' => e = .returned (.bool false) ∧ Below w.heap.size w w' := by
  rw [hs] at C1
  clear hs
  rw [ht] at C2
  clear ht
  go_enter Try.func50, Try.ntmps50
  go_wp2_with fail
  refine (C1.out _ (((Below.refl _ _).alloc (Nat.le_refl _) _).alloc (by simp) _)).mono ?_
  rintro e w1 ⟨rfl, q1, rfl⟩
  go_wp2_with fail
  refine (C2.out _ ((((Below.refl _ _).alloc (Nat.le_refl _) _).alloc (by simp) _).trans (below_dn _ _ _))).mono ?_
  rintro e w2 ⟨rfl, q2, rfl⟩
  go_wp2_with fail
  go_ret
  exact ⟨by simp, (((Below.refl _ _).alloc (Nat.le_refl _) _).alloc (by simp) _).trans (below_dn _ _ _)⟩

set_option maxRecDepth 100000 in
set_option maxHeartbeats 1600000 in
theorem equal_any_14 (x0 x1 x2 x3 x4 x6 x7 x10 x11 x12 x13 : Int) (x5 : Bool) (xa xd : Option Addr) (xn xc xm xe : Nat) (xF xG : Nat → Int) (y0 y1 y2 y3 y4 y6 y7 y10 y11 y12 y13 : Int) (y5 : Bool) (ya yd : Option Addr) (yn yc ym ye : Nat) (yF yG : Nat → Int) (w : World) (C1 : Hid (∀ w', Below w.heap.size w w' → Calls Try.prog 73 #[.slice xa xn xc, .slice ya yn yc] w' fun e w'' => e = .returned (.bool (sameB xn xF yn yF)) ∧ ∃ q, w'' = w'.drewN q)) (C2 : Hid (∀ w', Below w.heap.size w w' → Calls Try.prog 73 #[.slice xd xm xe, .slice yd ym ye] w' fun e w'' => e = .returned (.bool (sameB xm xG ym yG)) ∧ ∃ q, w'' = w'.drewN q)) (hs : sameB xn xF yn yF = true) (ht : sameB xm xG ym yG = true) :
    Calls Try.prog 50 #[.agg #[.int .i64 x0, .int .i64 x1, .int .i64 x2, .int .i64 x3, .int .i64 x4, .bool x5, .int .i64 x6, .int .i64 x7, .slice xa xn xc, .slice xd xm xe, .int .i64 x10, .int .i64 x11, .int .i64 x12, .int .i64 x13], .agg #[.int .i64 x0, .int .i64 x1, .int .i64 x2, .int .i64 x3, .int .i64 x4, .bool x5, .int .i64 x6, .int .i64 x7, .slice ya yn yc, .slice yd ym ye, .int .i64 x10, .int .i64 x11, .int .i64 x12, .int .i64 x13]] w fun e w' => e = .returned (.bool true) ∧ Below w.heap.size w w' := by
  rw [hs] at C1
  clear hs
  rw [ht] at C2
  clear ht
  go_enter Try.func50, Try.ntmps50
  go_wp2_with fail
  refine (C1.out _ (((Below.refl _ _).alloc (Nat.le_refl _) _).alloc (by simp) _)).mono ?_
  rintro e w1 ⟨rfl, q1, rfl⟩
  go_wp2_with fail
  refine (C2.out _ ((((Below.refl _ _).alloc (Nat.le_refl _) _).alloc (by simp) _).trans (below_dn _ _ _))).mono ?_
  rintro e w2 ⟨rfl, q2, rfl⟩
  go_wp2_with fail
  go_ret
  exact ⟨by simp, (((Below.refl _ _).alloc (Nat.le_refl _) _).alloc (by simp) _).trans (below_dn _ _ _)⟩

theorem equal_any (x0 x1 x2 x3 x4 x6 x7 x10 x11 x12 x13 : Int) (x5 : Bool) (xa xd : Option Addr) (xn xc xm xe : Nat) (xF xG : Nat → Int) (y0 y1 y2 y3 y4 y6 y7 y10 y11 y12 y13 : Int) (y5 : Bool) (ya yd : Option Addr) (yn yc ym ye : Nat) (yF yG : Nat → Int) (w : World) (hx1 : IntsAt w .i64 xa xn xF) (hx2 : IntsAt w .i64 xd xm xG) (hy1 : IntsAt w .i64 ya yn yF) (hy2 : IntsAt w .i64 yd ym yG) :
    Calls Try.prog 50 #[.agg #[.int .i64 x0, .int .i64 x1, .int .i64 x2, .int .i64 x3, .int .i64 x4, .bool x5, .int .i64 x6, .int .i64 x7, .slice xa xn xc, .slice xd xm xe, .int .i64 x10, .int .i64 x11, .int .i64 x12, .int .i64 x13], .agg #[.int .i64 y0, .int .i64 y1, .int .i64 y2, .int .i64 y3, .int .i64 y4, .bool y5, .int .i64 y6, .int .i64 y7, .slice ya yn yc, .slice yd ym ye, .int .i64 y10, .int .i64 y11, .int .i64 y12, .int .i64 y13]] w fun e w' => e = .returned (.bool (eqR x0 x1 x2 x3 x4 x6 x7 x10 x11 x12 x13 x5 xa xd xn xc xm xe xF xG y0 y1 y2 y3 y4 y6 y7 y10 y11 y12 y13 y5 ya yd yn yc ym ye yF yG)) ∧ Below w.heap.size w w' := by
  have C1 : Hid (∀ w', Below w.heap.size w w' → Calls Try.prog 73 #[.slice xa xn xc, .slice ya yn yc] w' fun e w'' => e = .returned (.bool (sameB xn xF yn yF)) ∧ ∃ q, w'' = w'.drewN q) := Lib.hid (fun w' hb => eqs_any w' (hx1.below hb) (hy1.below hb))
  have C2 : Hid (∀ w', Below w.heap.size w w' → Calls Try.prog 73 #[.slice xd xm xe, .slice yd ym ye] w' fun e w'' => e = .returned (.bool (sameB xm xG ym yG)) ∧ ∃ q, w'' = w'.drewN q) := Lib.hid (fun w' hb => eqs_any w' (hx2.below hb) (hy2.below hb))
  unfold eqR
  cases h0 : (x0 == y0)
  · simp only [Bool.and_false, Bool.false_and]
    exact equal_any_0 x0 x1 x2 x3 x4 x6 x7 x10 x11 x12 x13 x5 xa xd xn xc xm xe xF xG y0 y1 y2 y3 y4 y6 y7 y10 y11 y12 y13 y5 ya yd yn yc ym ye yF yG w C1 C2 h0
  obtain rfl : x0 = y0 := by simpa using h0
  cases h1 : (x1 == y1)
  · simp only [Bool.and_false, Bool.false_and]
    exact equal_any_1 x0 x1 x2 x3 x4 x6 x7 x10 x11 x12 x13 x5 xa xd xn xc xm xe xF xG x0 y1 y2 y3 y4 y6 y7 y10 y11 y12 y13 y5 ya yd yn yc ym ye yF yG w C1 C2 h1
  obtain rfl : x1 = y1 := by simpa using h1
  cases h2 : (x2 == y2)
  · simp only [Bool.and_false, Bool.false_and]
    exact equal_any_2 x0 x1 x2 x3 x4 x6 x7 x10 x11 x12 x13 x5 xa xd xn xc xm xe xF xG x0 x1 y2 y3 y4 y6 y7 y10 y11 y12 y13 y5 ya yd yn yc ym ye yF yG w C1 C2 h2
  obtain rfl : x2 = y2 := by simpa using h2
  cases h3 : (x3 == y3)
  · simp only [Bool.and_false, Bool.false_and]
    exact equal_any_3 x0 x1 x2 x3 x4 x6 x7 x10 x11 x12 x13 x5 xa xd xn xc xm xe xF xG x0 x1 x2 y3 y4 y6 y7 y10 y11 y12 y13 y5 ya yd yn yc ym ye yF yG w C1 C2 h3
  obtain rfl : x3 = y3 := by simpa using h3
  cases h4 : (x4 == y4)
  · simp only [Bool.and_false, Bool.false_and]
    exact equal_any_4 x0 x1 x2 x3 x4 x6 x7 x10 x11 x12 x13 x5 xa xd xn xc xm xe xF xG x0 x1 x2 x3 y4 y6 y7 y10 y11 y12 y13 y5 ya yd yn yc ym ye yF yG w C1 C2 h4
  obtain rfl : x4 = y4 := by simpa using h4
  cases h5 : (x5 == y5)
  · obtain rfl : y5 = !x5 := by cases x5 <;> cases y5 <;> simp_all
    simp only [Bool.and_false, Bool.false_and]
    exact equal_any_5 x0 x1 x2 x3 x4 x6 x7 x10 x11 x12 x13 x5 xa xd xn xc xm xe xF xG x0 x1 x2 x3 x4 y6 y7 y10 y11 y12 y13 (!x5) ya yd yn yc ym ye yF yG w C1 C2
  obtain rfl : x5 = y5 := by simpa using h5
  cases h6 : (x6 == y6)
  · simp only [Bool.and_false, Bool.false_and]
    exact equal_any_6 x0 x1 x2 x3 x4 x6 x7 x10 x11 x12 x13 x5 xa xd xn xc xm xe xF xG x0 x1 x2 x3 x4 y6 y7 y10 y11 y12 y13 x5 ya yd yn yc ym ye yF yG w C1 C2 h6
  obtain rfl : x6 = y6 := by simpa using h6
  cases h7 : (x7 == y7)
  · simp only [Bool.and_false, Bool.false_and]
    exact equal_any_7 x0 x1 x2 x3 x4 x6 x7 x10 x11 x12 x13 x5 xa xd xn xc xm xe xF xG x0 x1 x2 x3 x4 x6 y7 y10 y11 y12 y13 x5 ya yd yn yc ym ye yF yG w C1 C2 h7
  obtain rfl : x7 = y7 := by simpa using h7
  cases hs : sameB xn xF yn yF
  · simp only [Bool.and_false, Bool.false_and]
    exact equal_any_8 x0 x1 x2 x3 x4 x6 x7 x10 x11 x12 x13 x5 xa xd xn xc xm xe xF xG x0 x1 x2 x3 x4 x6 x7 y10 y11 y12 y13 x5 ya yd yn yc ym ye yF yG w C1 C2 hs
  cases ht : sameB xm xG ym yG
  · simp only [Bool.and_false, Bool.false_and]
    exact equal_any_9 x0 x1 x2 x3 x4 x6 x7 x10 x11 x12 x13 x5 xa xd xn xc xm xe xF xG x0 x1 x2 x3 x4 x6 x7 y10 y11 y12 y13 x5 ya yd yn yc ym ye yF yG w C1 C2 hs ht
  cases h10 : (x10 == y10)
  · simp only [Bool.and_false, Bool.false_and]
    exact equal_any_10 x0 x1 x2 x3 x4 x6 x7 x10 x11 x12 x13 x5 xa xd xn xc xm xe xF xG x0 x1 x2 x3 x4 x6 x7 y10 y11 y12 y13 x5 ya yd yn yc ym ye yF yG w C1 C2 h10 hs ht
  obtain rfl : x10 = y10 := by simpa using h10
  cases h11 : (x11 == y11)
  · simp only [Bool.and_false, Bool.false_and]
    exact equal_any_11 x0 x1 x2 x3 x4 x6 x7 x10 x11 x12 x13 x5 xa xd xn xc xm xe xF xG x0 x1 x2 x3 x4 x6 x7 x10 y11 y12 y13 x5 ya yd yn yc ym ye yF yG w C1 C2 h11 hs ht
  obtain rfl : x11 = y11 := by simpa using h11
  cases h12 : (x12 == y12)
  · simp only [Bool.and_false, Bool.false_and]
    exact equal_any_12 x0 x1 x2 x3 x4 x6 x7 x10 x11 x12 x13 x5 xa xd xn xc xm xe xF xG x0 x1 x2 x3 x4 x6 x7 x10 x11 y12 y13 x5 ya yd yn yc ym ye yF yG w C1 C2 h12 hs ht
  obtain rfl : x12 = y12 := by simpa using h12
  cases h13 : (x13 == y13)
  · simp only [Bool.and_false, Bool.false_and]
    exact equal_any_13 x0 x1 x2 x3 x4 x6 x7 x10 x11 x12 x13 x5 xa xd xn xc xm xe xF xG x0 x1 x2 x3 x4 x6 x7 x10 x11 x12 y13 x5 ya yd yn yc ym ye yF yG w C1 C2 h13 hs ht
  obtain rfl : x13 = y13 := by simpa using h13
  simp only [beq_self_eq_true, Bool.and_true, hs, ht]
  exact equal_any_14 x0 x1 x2 x3 x4 x6 x7 x10 x11 x12 x13 x5 xa xd xn xc xm xe xF xG x0 x1 x2 x3 x4 x6 x7 x10 x11 x12 x13 x5 ya yd yn yc ym ye yF yG w C1 C2 hs ht

set_option maxRecDepth 100000 in
set_option maxHeartbeats 1600000 in
theorem same_any_0 (x0 x1 x2 x3 x4 x6 x7 x10 x11 x12 x13 : Int) (x5 : Bool) (xa xd : Option Addr) (xn xc xm xe : Nat) (xF xG : Nat → Int) (y0 y1 y2 y3 y4 y6 y7 y10 y11 y12 y13 : Int) (y5 : Bool) (ya yd : Option Addr) (yn yc ym ye : Nat) (yF yG : Nat → Int) (w : World) (C1 : Hid (∀ w', Below w.heap.size w w' → Calls Try.prog 74 #[.slice xa xn xc, .slice ya yn yc] w' fun e w'' => e = .returned (.bool (sameB xn xF yn yF)) ∧ ∃ q, w'' = w'.drewN q)) (C2 : Hid (∀ w', Below w.heap.size w w' → Calls Try.prog 74 #[.slice xd xm xe, .slice yd ym ye] w' fun e w'' => e = .returned (.bool (sameB xm xG ym yG)) ∧ ∃ q, w'' = w'.drewN q)) (hk : (x0 == y0) = false) :
    Calls Try.prog 52 #[.agg #[.int .i64 x0, .int .i64 x1, .int .i64 x2, .int .i64 x3, .int .i64 x4, .bool x5, .int .i64 x6, .int .i64 x7, .slice xa xn xc, .slice xd xm xe, .int .i64 x10, .int .i64 x11, .int .i64 x12, .int .i64 x13], .agg #[.int .i64 y0, .int .i64 y1, .int .i64 y2, .int .i64 y3, .int .i64 y4, .bool y5, .int .i64 y6, .int .i64 y7, .slice ya yn yc, .slice yd ym ye, .int .i64 y10, .int .i64 y11, .int .i64 y12, .int .i64 y13]] w fun e w' => e = .returned (.bool false) ∧ Below w.heap.size w w' := by
  go_enter Try.func52, Try.ntmps52
  go_wp2_with fail
  go_ret
  exact ⟨by simp, ((Below.refl _ _).alloc (Nat.le_refl _) _).alloc (by simp) _⟩

set_option maxRecDepth 100000 in
set_option maxHeartbeats 1600000 in
theorem same_any_1 (x0 x1 x2 x3 x4 x6 x7 x10 x11 x12 x13 : Int) (x5 : Bool) (xa xd : Option Addr) (xn xc xm xe : Nat) (xF xG : Nat → Int) (y0 y1 y2 y3 y4 y6 y7 y10 y11 y12 y13 : Int) (y5 : Bool) (ya yd : Option Addr) (yn yc ym ye : Nat) (yF yG : Nat → Int) (w : World) (C1 : Hid (∀ w', Below w.heap.size w w' → Calls Try.prog 74 #[.slice xa xn xc, .slice ya yn yc] w' fun e w'' => e = .returned (.bool (sameB xn xF yn yF)) ∧ ∃ q, w'' = w'.drewN q)) (C2 : Hid (∀ w', Below w.heap.size w w' → Calls Try.prog 74 #[.slice xd xm xe, .slice yd ym ye] w' fun e w'' => e = .returned (.bool (sameB xm xG ym yG)) ∧ ∃ q, w'' = w'.drewN q)) (hk : (x1 == y1) = false) :
    Calls Try.prog 52 #[.agg #[.int .i64 x0, .int .i64 x1, .int .i64 x2, .int .i64 x3, .int .i64 x4, .bool x5, .int .i64 x6, .int .i64 x7, .slice xa xn xc, .slice xd xm xe, .int .i64 x10, .int .i64 x11, .int .i64 x12, .int .i64 x13], .agg #[.int .i64 x0, .int .i64 y1, .int .i64 y2, .int .i64 y3, .int .i64 y4, .bool y5, .int .i64 y6, .int .i64 y7, .slice ya yn yc, .slice yd ym ye, .int .i64 y10, .int .i64 y11, .int .i64 y12, .int .i64 y13]] w fun e w' => e = .returned (.bool false) ∧ Below w.heap.size w w' := by
  go_enter Try.func52, Try.ntmps52
  go_wp2_with fail
  go_ret
  exact ⟨by simp, ((Below.refl _ _).alloc (Nat.le_refl _) _).alloc (by simp) _⟩

set_option maxRecDepth 100000 in
set_option maxHeartbeats 1600000 in
theorem same_any_2 (x0 x1 x2 x3 x4 x6 x7 x10 x11 x12 x13 : Int) (x5 : Bool) (xa xd : Option Addr) (xn xc xm xe : Nat) (xF xG : Nat → Int) (y0 y1 y2 y3 y4 y6 y7 y10 y11 y12 y13 : Int) (y5 : Bool) (ya yd : Option Addr) (yn yc ym ye : Nat) (yF yG : Nat → Int) (w : World) (C1 : Hid (∀ w', Below w.heap.size w w' → Calls Try.prog 74 #[.slice xa xn xc, .slice ya yn yc] w' fun e w'' => e = .returned (.bool (sameB xn xF yn yF)) ∧ ∃ q, w'' = w'.drewN q)) (C2 : Hid (∀ w', Below w.heap.size w w' → Calls Try.prog 74 #[.slice xd xm xe, .slice yd ym ye] w' fun e w'' => e = .returned (.bool (sameB xm xG ym yG)) ∧ ∃ q, w'' = w'.drewN q)) (hk : (x2 == y2) = false) :
    Calls Try.prog 52 #[.agg #[.int .i64 x0, .int .i64 x1, .int .i64 x2, .int .i64 x3, .int .i64 x4, .bool x5, .int .i64 x6, .int .i64 x7, .slice xa xn xc, .slice xd xm xe, .int .i64 x10, .int .i64 x11, .int .i64 x12, .int .i64 x13], .agg #[.int .i64 x0, .int .i64 x1, .int .i64 y2, .int .i64 y3, .int .i64 y4, .bool y5, .int .i64 y6, .int .i64 y7, .slice ya yn yc, .slice yd ym ye, .int .i64 y10, .int .i64 y11, .int .i64 y12, .int .i64 y13]] w fun e w' => e = .returned (.bool false) ∧ Below w.heap.size w w' := by
  go_enter Try.func52, Try.ntmps52
  go_wp2_with fail
  go_ret
  exact ⟨by simp, ((Below.refl _ _).alloc (Nat.le_refl _) _).alloc (by simp) _⟩

set_option maxRecDepth 100000 in
set_option maxHeartbeats 1600000 in
theorem same_any_3 (x0 x1 x2 x3 x4 x6 x7 x10 x11 x12 x13 : Int) (x5 : Bool) (xa xd : Option Addr) (xn xc xm xe : Nat) (xF xG : Nat → Int) (y0 y1 y2 y3 y4 y6 y7 y10 y11 y12 y13 : Int) (y5 : Bool) (ya yd : Option Addr) (yn yc ym ye : Nat) (yF yG : Nat → Int) (w : World) (C1 : Hid (∀ w', Below w.heap.size w w' → Calls Try.prog 74 #[.slice xa xn xc, .slice ya yn yc] w' fun e w'' => e = .returned (.bool (sameB xn xF yn yF)) ∧ ∃ q, w'' = w'.drewN q)) (C2 : Hid (∀ w', Below w.heap.size w w' → Calls Try.prog 74 #[.slice xd xm xe, .slice yd ym ye] w' fun e w'' => e = .returned (.bool (sameB xm xG ym yG)) ∧ ∃ q, w'' = w'.drewN q)) (hk : (x3 == y3) = false) :
    Calls Try.prog 52 #[.agg #[.int .i64 x0, .int .i64 x1, .int .i64 x2, .int .i64 x3, .int .i64 x4, .bool x5, .int .i64 x6, .int .i64 x7, .slice xa xn xc, .slice xd xm xe, .int .i64 x10, .int .i64 x11, .int .i64 x12, .int .i64 x13], .agg #[.int .i64 x0, .int .i64 x1, .int .i64 x2, .int .i64 y3, .int .i64 y4, .bool y5, .int .i64 y6, .int .i64 y7, .slice ya yn yc, .slice yd ym ye, .int .i64 y10, .int .i64 y11, .int .i64 y12, .int .i64 y13]] w fun e w' => e = .returned (.bool false) ∧ Below w.heap.size w w' := by
  go_enter Try.func52, Try.ntmps52
  go_wp2_with fail
  go_ret
  exact ⟨by simp, ((Below.refl _ _).alloc (Nat.le_refl _) _).alloc (by simp) _⟩

set_option maxRecDepth 100000 in
set_option maxHeartbeats 1600000 in
theorem same_any_4 (x0 x1 x2 x3 x4 x6 x7 x10 x11 x12 x13 : Int) (x5 : Bool) (xa xd : Option Addr) (xn xc xm xe : Nat) (xF xG : Nat → Int) (y0 y1 y2 y3 y4 y6 y7 y10 y11 y12 y13 : Int) (y5 : Bool) (ya yd : Option Addr) (yn yc ym ye : Nat) (yF yG : Nat → Int) (w : World) (C1 : Hid (∀ w', Below w.heap.size w w' → Calls Try.prog 74 #[.slice xa xn xc, .slice ya yn yc] w' fun e w'' => e = .returned (.bool (sameB xn xF yn yF)) ∧ ∃ q, w'' = w'.drewN q)) (C2 : Hid (∀ w', Below w.heap.size w w' → Calls Try.prog 74 #[.slice xd xm xe, .slice yd ym ye] w' fun e w'' => e = .returned (.bool (sameB xm xG ym yG)) ∧ ∃ q, w'' = w'.drewN q)) (hk : (x4 == y4) = false) :
    Calls Try.prog 52 #[.agg #[.int .i64 x0, .int .i64 x1, .int .i64 x2, .int .i64 x3, .int .i64 x4, .bool x5, .int .i64 x6, .int .i64 x7, .slice xa xn xc, .slice xd xm xe, .int .i64 x10, .int .i64 x11, .int .i64 x12, .int .i64 x13], .agg #[.int .i64 x0, .int .i64 x1, .int .i64 x2, .int .i64 x3, .int .i64 y4, .bool y5, .int .i64 y6, .int .i64 y7, .slice ya yn yc, .slice yd ym ye, .int .i64 y10, .int .i64 y11, .int .i64 y12, .int .i64 y13]] w fun e w' => e = .returned (.bool false) ∧ Below w.heap.size w w' := by
  go_enter Try.func52, Try.ntmps52
  go_wp2_with fail
  go_ret
  exact ⟨by simp, ((Below.refl _ _).alloc (Nat.le_refl _) _).alloc (by simp) _⟩

set_option maxRecDepth 100000 in
set_option maxHeartbeats 1600000 in
theorem same_any_5 (x0 x1 x2 x3 x4 x6 x7 x10 x11 x12 x13 : Int) (x5 : Bool) (xa xd : Option Addr) (xn xc xm xe : Nat) (xF xG : Nat → Int) (y0 y1 y2 y3 y4 y6 y7 y10 y11 y12 y13 : Int) (y5 : Bool) (ya yd : Option Addr) (yn yc ym ye : Nat) (yF yG : Nat → Int) (w : World) (C1 : Hid (∀ w', Below w.heap.size w w' → Calls Try.prog 74 #[.slice xa xn xc, .slice ya yn yc] w' fun e w'' => e = .returned (.bool (sameB xn xF yn yF)) ∧ ∃ q, w'' = w'.drewN q)) (C2 : Hid (∀ w', Below w.heap.size w w' → Calls Try.prog 74 #[.slice xd xm xe, .slice yd ym ye] w' fun e w'' => e = .returned (.bool (sameB xm xG ym yG)) ∧ ∃ q, w'' = w'.drewN q)) :
    Calls Try.prog 52 #[.agg #[.int .i64 x0, .int .i64 x1, .int .i64 x2, .int .i64 x3, .int .i64 x4, .bool x5, .int .i64 x6, .int .i64 x7, .slice xa xn xc, .slice xd xm xe, .int .i64 x10, .int .i64 x11, .int .i64 x12, .int .i64 x13], .agg #[.int .i64 x0, .int .i64 x1, .int .i64 x2, .int .i64 x3, .int .i64 x4, .bool (!x5), .int .i64 y6, .int .i64 y7, .slice ya yn yc, .slice yd ym ye, .int .i64 y10, .int .i64 y11, .int .i64 y12, .int .i64 y13]] w fun e w' => e = .returned (.bool false) ∧ Below w.heap.size w w' := by
  cases x5
  all_goals
    go_enter Try.func52, Try.ntmps52
    go_wp2_with fail
    go_ret
    exact ⟨by simp, ((Below.refl _ _).alloc (Nat.le_refl _) _).alloc (by simp) _⟩

set_option maxRecDepth 100000 in
set_option maxHeartbeats 1600000 in
theorem same_any_6 (x0 x1 x2 x3 x4 x6 x7 x10 x11 x12 x13 : Int) (x5 : Bool) (xa xd : Option Addr) (xn xc xm xe : Nat) (xF xG : Nat → Int) (y0 y1 y2 y3 y4 y6 y7 y10 y11 y12 y13 : Int) (y5 : Bool) (ya yd : Option Addr) (yn yc ym ye : Nat) (yF yG : Nat → Int) (w : World) (C1 : Hid (∀ w', Below w.heap.size w w' → Calls Try.prog 74 #[.slice xa xn xc, .slice ya yn yc] w' fun e w'' => e = .returned (.bool (sameB xn xF yn yF)) ∧ ∃ q, w'' = w'.drewN q)) (C2 : Hid (∀ w', Below w.heap.size w w' → Calls Try.prog 74 #[.slice xd xm xe, .slice yd ym ye] w' fun e w'' => e = .returned (.bool (sameB xm xG ym yG)) ∧ ∃ q, w'' = w'.drewN q)) (hk : (x6 == y6) = false) :
    Calls Try.prog 52 #[.agg #[.int .i64 x0, .int .i64 x1, .int .i64 x2, .int .i64 x3, .int .i64 x4, .bool x5, .int .i64 x6, .int .i64 x7, .slice xa xn xc, .slice xd xm xe, .int .i64 x10, .int .i64 x11, .int .i64 x12, .int .i64 x13], .agg #[.int .i64 x0, .int .i64 x1, .int .i64 x2, .int .i64 x3, .int .i64 x4, .bool x5, .int .i64 y6, .int .i64 y7, .slice ya yn yc, .slice yd ym ye, .int .i64 y10, .int .i64 y11, .int .i64 y12, .int .i64 y13]] w fun e w' => e = .returned (.bool false) ∧ Below w.heap.size w w' := by
  go_enter Try.func52, Try.ntmps52
  go_wp2_with fail
  go_ret
  exact ⟨by simp, ((Below.refl _ _).alloc (Nat.le_refl _) _).alloc (by simp) _⟩

set_option maxRecDepth 100000 in
set_option maxHeartbeats 1600000 in
theorem same_any_7 (x0 x1 x2 x3 x4 x6 x7 x10 x11 x12 x13 : Int) (x5 : Bool) (xa xd : Option Addr) (xn xc xm xe : Nat) (xF xG : Nat → Int) (y0 y1 y2 y3 y4 y6 y7 y10 y11 y12 y13 : Int) (y5 : Bool) (ya yd : Option Addr) (yn yc ym ye : Nat) (yF yG : Nat → Int) (w : World) (C1 : Hid (∀ w', Below w.heap.size w w' → Calls Try.prog 74 #[.slice xa xn xc, .slice ya yn yc] w' fun e w'' => e = .returned (.bool (sameB xn xF yn yF)) ∧ ∃ q, w'' = w'.drewN q)) (C2 : Hid (∀ w', Below w.heap.size w w' → Calls Try.prog 74 #[.slice xd xm xe, .slice yd ym ye] w' fun e w'' => e = .returned (.bool (sameB xm xG ym yG)) ∧ ∃ q, w'' = w'.drewN q)) (hk : (x7 == y7) = false) :
    Calls Try.prog 52 #[.agg #[.int .i64 x0, .int .i64 x1, .int .i64 x2, .int .i64 x3, .int .i64 x4, .bool x5, .int .i64 x6, .int .i64 x7, .slice xa xn xc, .slice xd xm xe, .int .i64 x10, .int .i64 x11, .int .i64 x12, .int .i64 x13], .agg #[.int .i64 x0, .int .i64 x1, .int .i64 x2, .int .i64 x3, .int .i64 x4, .bool x5, .int .i64 x6, .int .i64 y7, .slice ya yn yc, .slice yd ym ye, .int .i64 y10, .int .i64 y11, .int .i64 y12, .int .i64 y13]] w fun e w' => e = .returned (.bool false) ∧ Below w.heap.size w w' := by
  go_enter Try.func52, Try.ntmps52
  go_wp2_with fail
  go_ret
  exact ⟨by simp, ((Below.refl _ _).alloc (Nat.le_refl _) _).alloc (by simp) _⟩

set_option maxRecDepth 100000 in
set_option maxHeartbeats 1600000 in
theorem same_any_8 (x0 x1 x2 x3 x4 x6 x7 x10 x11 x12 x13 : Int) (x5 : Bool) (xa xd : Option Addr) (xn xc xm xe : Nat) (xF xG : Nat → Int) (y0 y1 y2 y3 y4 y6 y7 y10 y11 y12 y13 : Int) (y5 : Bool) (ya yd : Option Addr) (yn yc ym ye : Nat) (yF yG : Nat → Int) (w : World) (C1 : Hid (∀ w', Below w.heap.size w w' → Calls Try.prog 74 #[.slice xa xn xc, .slice ya yn yc] w' fun e w'' => e = .returned (.bool (sameB xn xF yn yF)) ∧ ∃ q, w'' = w'.drewN q)) (C2 : Hid (∀ w', Below w.heap.size w w' → Calls Try.prog 74 #[.slice xd xm xe, .slice yd ym ye] w' fun e w'' => e = .returned (.bool (sameB xm xG ym yG)) ∧ ∃ q, w'' = w'.drewN q)) (hs : sameB xn xF yn yF = false) :
    Calls Try.prog 52 #[.agg #[.int .i64 x0, .int .i64 x1, .int .i64 x2, .int .i64 x3, .int .i64 x4, .bool x5, .int .i64 x6, .int .i64 x7, .slice xa xn xc, .slice xd xm xe, .int .i64 x10, .int .i64 x11, .int .i64 x12, .int .i64 x13], .agg #[.int .i64 x0, .int .i64 x1, .int .i64 x2, .int .i64 x3, .int .i64 x4, .bool x5, .int .i64 x6, .int .i64 x7, .slice ya yn yc, .slice yd ym ye, .int .i64 y10, .int .i64 y11, .int .i64 y12, .int .i64 y13]] w fun e w' => e = .returned (.bool false) ∧ Below w.heap.size w w' := by
  rw [hs] at C1
  clear hs
  go_enter Try.func52, Try.ntmps52
  go_wp2_with fail
  refine (C1.out _ (((Below.refl _ _).alloc (Nat.le_refl _) _).alloc (by simp) _)).mono ?_
  rintro e w1 ⟨rfl, q1, rfl⟩
  go_wp2_with fail
  go_ret
  exact ⟨by simp, (((Below.refl _ _).alloc (Nat.le_refl _) _).alloc (by simp) _).trans (below_dn _ _ _)⟩

set_option maxRecDepth 100000 in
set_option maxHeartbeats 1600000 in
theorem same_any_9 (x0 x1 x2 x3 x4 x6 x7 x10 x11 x12 x13 : Int) (x5 : Bool) (xa xd : Option Addr) (xn xc xm xe : Nat) (xF xG : Nat → Int) (y0 y1 y2 y3 y4 y6 y7 y10 y11 y12 y13 : Int) (y5 : Bool) (ya yd : Option Addr) (yn yc ym ye : Nat) (yF yG : Nat → Int) (w : World) (C1 : Hid (∀ w', Below w.heap.size w w' → Calls Try.prog 74 #[.slice xa xn xc, .slice ya yn yc] w' fun e w'' => e = .returned (.bool (sameB xn xF yn yF)) ∧ ∃ q, w'' = w'.drewN q)) (C2 : Hid (∀ w', Below w.heap.size w w' → Calls Try.prog 74 #[.slice xd xm xe, .slice yd ym ye] w' fun e w'' => e = .returned (.bool (sameB xm xG ym yG)) ∧ ∃ q, w'' = w'.drewN q)) (hs : sameB xn xF yn yF = true) (ht : sameB xm xG ym yG = false) :
    Calls Try.prog 52 #[.agg #[.int .i64 x0, .int .i64 x1, .int .i64 x2, .int .i64 x3, .int .i64 x4, .bool x5, .int .i64 x6, .int .i64 x7, .slice xa xn xc, .slice xd xm xe, .int .i64 x10, .int .i64 x11, .int .i64 x12, .int .i64 x13], .agg #[.int .i64 x0, .int .i64 x1, .int .i64 x2, .int .i64 x3, .int .i64 x4, .bool x5, .int .i64 x6, .int .i64 x7, .slice ya yn yc, .slice yd ym ye, .int .i64 y10, .int .i64 y11, .int .i64 y12, .int .i64 y13]] w fun e w' => e = .returned (.bool false) ∧ Below w.heap.size w w' := by
  rw [hs] at C1
  clear hs
  rw [ht] at C2
  clear ht
  go_enter Try.func52, Try.ntmps52
  go_wp2_with fail
  refine (C1.out _ (((Below.refl _ _).alloc (Nat.le_refl _) _).alloc (by simp) _)).mono ?_
  rintro e w1 ⟨rfl, q1, rfl⟩
  go_wp2_with fail
  refine (C2.out _ ((((Below.refl _ _).alloc (Nat.le_refl _) _).alloc (by simp) _).trans (below_dn _ _ _))).mono ?_
  rintro e w2 ⟨rfl, q2, rfl⟩
  go_wp2_with fail
  go_ret
  exact ⟨by simp, (((Below.refl _ _).alloc (Nat.le_refl _) _).alloc (by simp) _).trans (below_dn _ _ _)⟩

set_option maxRecDepth 100000 in
set_option maxHeartbeats 1600000 in
theorem same_any_10 (x0 x1 x2 x3 x4 x6 x7 x10 x11 x12 x13 : Int) (x5 : Bool) (xa xd : Option Addr) (xn xc xm xe : Nat) (xF xG : Nat → Int) (y0 y1 y2 y3 y4 y6 y7 y10 y11 y12 y13 : Int) (y5 : Bool) (ya yd : Option Addr) (yn yc ym ye : Nat) (yF yG : Nat → Int) (w : World) (C1 : Hid (∀ w', Below w.heap.size w w' → Calls Try.prog 74 #[.slice xa xn xc, .slice ya yn yc] w' fun e w'' => e = .returned (.bool (sameB xn xF yn yF)) ∧ ∃ q, w'' = w'.drewN q)) (C2 : Hid (∀ w', Below w.heap.size w w' → Calls Try.prog 74 #[.slice xd xm xe, .slice yd ym ye] w' fun e w'' => e = .returned (.bool (sameB xm xG ym yG)) ∧ ∃ q, w'' = w'.drewN q)) (hk : (x10 == y10) = false) (hs : sameB xn xF yn yF = true) (ht : sameB xm xG ym yG = true) :
    Calls Try.prog 52 #[.agg #[.int .i64 x0, .int .i64 x1, .int .i64 x2, .int .i64 x3, .int .i64 x4, .bool x5, .int .i64 x6, .int .i64 x7, .slice xa xn xc, .slice xd xm xe, .int .i64 x10, .int .i64 x11, .int .i64 x12, .int .i64 x13], .agg #[.int .i64 x0, .int .i64 x1, .int .i64 x2, .int .i64 x3, .int .i64 x4, .bool x5, .int .i64 x6, .int .i64 x7, .slice ya yn yc, .slice yd ym ye, .int .i64 y10, .int .i64 y11, .int .i64 y12, .int .i64 y13]] w fun e w' => e = .returned (.bool false) ∧ Below w.heap.size w w' := by
  rw [hs] at C1
  clear hs
  rw [ht] at C2
  clear ht
  go_enter Try.func52, Try.ntmps52
  go_wp2_with fail
  refine (C1.out _ (((Below.refl _ _).alloc (Nat.le_refl _) _).alloc (by simp) _)).mono ?_
  rintro e w1 ⟨rfl, q1, rfl⟩
  go_wp2_with fail
  refine (C2.out _ ((((Below.refl _ _).alloc (Nat.le_refl _) _).alloc (by simp) _).trans (below_dn _ _ _))).mono ?_
  rintro e w2 ⟨rfl, q2, rfl⟩
  go_wp2_with fail
  go_ret
  exact ⟨by simp, (((Below.refl _ _).alloc (Nat.le_refl _) _).alloc (by simp) _).trans (below_dn _ _ _)⟩

set_option maxRecDepth 100000 in
set_option maxHeartbeats 1600000 in
theorem same_any_11 (x0 x1 x2 x3 x4 x6 x7 x10 x11 x12 x13 : Int) (x5 : Bool) (xa xd : Option Addr) (xn xc xm xe : Nat) (xF xG : Nat → Int) (y0 y1 y2 y3 y4 y6 y7 y10 y11 y12 y13 : Int) (y5 : Bool) (ya yd : Option Addr) (yn yc ym ye : Nat) (yF yG : Nat → Int) (w : World) (C1 : Hid (∀ w', Below w.heap.size w w' → Calls Try.prog 74 #[.slice xa xn xc, .slice ya yn yc] w' fun e w'' => e = .returned (.bool (sameB xn xF yn yF)) ∧ ∃ q, w'' = w'.drewN q)) (C2 : Hid (∀ w', Below w.heap.size w w' → Calls Try.prog 74 #[.slice xd xm xe, .slice yd ym ye] w' fun e w'' => e = .returned (.bool (sameB xm xG ym yG)) ∧ ∃ q, w'' = w'.drewN q)) (hk : (x11 == y11) = false) (hs : sameB xn xF yn yF = true) (ht : sameB xm xG ym yG = true) :
    Calls Try.prog 52 #[.agg #[.int .i64 x0, .int .i64 x1, .int .i64 x2, .int .i64 x3, .int .i64 x4, .bool x5, .int .i64 x6, .int .i64 x7, .slice xa xn xc, .slice xd xm xe, .int .i64 x10, .int .i64 x11, .int .i64 x12, .int .i64 x13], .agg #[.int .i64 x0, .int .i64 x1, .int .i64 x2, .int .i64 x3, .int .i64 x4, .bool x5, .int .i64 x6, .int .i64 x7, .slice ya yn yc, .slice yd ym ye, .int .i64 x10, .int .i64 y11, .int .i64 y12, .int .i64 y13]] w fun e w' => e = .returned (.bool false) ∧ Below w.heap.size w w' := by
  rw [hs] at C1
  clear hs
  rw [ht] at C2
  clear ht
  go_enter Try.func52, Try.ntmps52
  go_wp2_with fail
  refine (C1.out _ (((Below.refl _ _).alloc (Nat.le_refl _) _).alloc (by simp) _)).mono ?_
  rintro e w1 ⟨rfl, q1, rfl⟩
  go_wp2_with fail
  refine (C2.out _ ((((Below.refl _ _).alloc (Nat.le_refl _) _).alloc (by simp) _).trans (below_dn _ _ _))).mono ?_
  rintro e w2 ⟨rfl, q2, rfl⟩
  go_wp2_with fail
  go_ret
  exact ⟨by simp, (((Below.refl _ _).alloc (Nat.le_refl _) _).alloc (by simp) _).trans (below_dn _ _ _)⟩

set_option maxRecDepth 100000 in
set_option maxHeartbeats 1600000 in
theorem same_any_12 (x0 x1 x2 x3 x4 x6 x7 x10 x11 x12 x13 : Int) (x5 : Bool) (xa xd : Option Addr) (xn xc xm xe : Nat) (xF xG : Nat → Int) (y0 y1 y2 y3 y4 y6 y7 y10 y11 y12 y13 : Int) (y5 : Bool) (ya yd : Option Addr) (yn yc ym ye : Nat) (yF yG : Nat → Int) (w : World) (C1 : Hid (∀ w', Below w.heap.size w w' → Calls Try.prog 74 #[.slice xa xn xc, .slice ya yn yc] w' fun e w'' => e = .returned (.bool (sameB xn xF yn yF)) ∧ ∃ q, w'' = w'.drewN q)) (C2 : Hid (∀ w', Below w.heap.size w w' → Calls Try.prog 74 #[.slice xd xm xe, .slice yd ym ye] w' fun e w'' => e = .returned (.bool (sameB xm xG ym yG)) ∧ ∃ q, w'' = w'.drewN q)) (hk : (x12 == y12) = false) (hs : sameB xn xF yn yF = true) (ht : sameB xm xG ym yG = true) :
    Calls Try.prog 52 #[.agg #[.int .i64 x0, .int .i64 x1, .int .i64 x2, .int .i64 x3, .int .i64 x4, .bool x5, .int .i64 x6, .int .i64 x7, .slice xa xn xc, .slice xd xm xe, .int .i64 x10, .int .i64 x11, .int .i64 x12, .int .i64 x13], .agg #[.int .i64 x0, .int .i64 x1, .int .i64 x2, .int .i64 x3, .int .i64 x4, .bool x5, .int .i64 x6, .int .i64 x7, .slice ya yn yc, .slice yd ym ye, .int .i64 x10, .int .i64 x11, .int .i64 y12, .int .i64 y13]] w fun e w' => e = .returned (.bool false) ∧ Below w.heap.size w w' := by
  rw [hs] at C1
  clear hs
  rw [ht] at C2
  clear ht
  go_enter Try.func52, Try.ntmps52
  go_wp2_with fail
  refine (C1.out _ (((Below.refl _ _).alloc (Nat.le_refl _) _).alloc (by simp) _)).mono ?_
  rintro e w1 ⟨rfl, q1, rfl⟩
  go_wp2_with fail
  refine (C2.out _ ((((Below.refl _ _).alloc (Nat.le_refl _) _).alloc (by simp) _).trans (below_dn _ _ _))).mono ?_
  rintro e w2 ⟨rfl, q2, rfl⟩
  go_wp2_with fail
  go_ret
  exact ⟨by simp, (((Below.refl _ _).alloc (Nat.le_refl _) _).alloc (by simp) _).trans (below_dn _ _ _)⟩

set_option maxRecDepth 100000 in
set_option maxHeartbeats 1600000 in
theorem same_any_13 (x0 x1 x2 x3 x4 x6 x7 x10 x11 x12 x13 : Int) (x5 : Bool) (xa xd : Option Addr) (xn xc xm xe : Nat) (xF xG : Nat → Int) (y0 y1 y2 y3 y4 y6 y7 y10 y11 y12 y13 : Int) (y5 : Bool) (ya yd : Option Addr) (yn yc ym ye : Nat) (yF yG : Nat → Int) (w : World) (C1 : Hid (∀ w', Below w.heap.size w w' → Calls Try.prog 74 #[.slice xa xn xc, .slice ya yn yc] w' fun e w'' => e = .returned (.bool (sameB xn xF yn yF)) ∧ ∃ q, w'' = w'.drewN q)) (C2 : Hid (∀ w', Below w.heap.size w w' → Calls Try.prog 74 #[.slice xd xm xe, .slice yd ym ye] w' fun e w'' => e = .returned (.bool (sameB xm xG ym yG)) ∧ ∃ q, w'' = w'.drewN q)) (hk : (x13 == y13) = false) (hs : sameB xn xF yn yF = true) (ht : sameB xm xG ym yG = true) :
    Calls Try.prog 52 #[.agg #[.int .i64 x0, .int .i64 x1, .int .i64 x2, .int .i64 x3, .int .i64 x4, .bool x5, .int .i64 x6, .int .i64 x7, .slice xa xn xc, .slice xd xm xe, .int .i64 x10, .int .i64 x11, .int .i64 x12, .int .i64 x13], .agg #[.int .i64 x0, .int .i64 x1, .int .i64 x2, .int .i64 x3, .int .i64 x4, .bool x5, .int .i64 x6, .int .i64 x7, .slice ya yn yc, .slice yd ym ye, .int .i64 x10, .int .i64 x11, .int .i64 x12, .int .i64 y13]] w fun e w' => e = .returned (.bool false) ∧ Below w.heap.size w w' := by
  rw [hs] at C1
  clear hs
  rw [ht] at C2
  clear ht
  go_enter Try.func52, Try.ntmps52
  go_wp2_with fail
  refine (C1.out _ (((Below.refl _ _).alloc (Nat.le_refl _) _).alloc (by simp) _)).mono ?_
  rintro e w1 ⟨rfl, q1, rfl⟩
  go_wp2_with fail
  refine (C2.out _ ((((Below.refl _ _).alloc (Nat.le_refl _) _).alloc (by simp) _).trans (below_dn _ _ _))).mono ?_
  rintro e w2 ⟨rfl, q2, rfl⟩
  go_wp2_with fail
  go_ret
  exact ⟨by simp, (((Below.refl _ _).alloc (Nat.le_refl _) _).alloc (by simp) _).trans (below_dn _ _ _)⟩

set_option maxRecDepth 100000 in
set_option maxHeartbeats 1600000 in
theorem same_any_14 (x0 x1 x2 x3 x4 x6 x7 x10 x11 x12 x13 : Int) (x5 : Bool) (xa xd : Option Addr) (xn xc xm xe : Nat) (xF xG : Nat → Int) (y0 y1 y2 y3 y4 y6 y7 y10 y11 y12 y13 : Int) (y5 : Bool) (ya yd : Option Addr) (yn yc ym ye : Nat) (yF yG : Nat → Int) (w : World) (C1 : Hid (∀ w', Below w.heap.size w w' → Calls Try.prog 74 #[.slice xa xn xc, .slice ya yn yc] w' fun e w'' => e = .returned (.bool (sameB xn xF yn yF)) ∧ ∃ q, w'' = w'.drewN q)) (C2 : Hid (∀ w', Below w.heap.size w w' → Calls Try.prog 74 #[.slice xd xm xe, .slice yd ym ye] w' fun e w'' => e = .returned (.bool (sameB xm xG ym yG)) ∧ ∃ q, w'' = w'.drewN q)) (hs : sameB xn xF yn yF = true) (ht : sameB xm xG ym yG = true) :
    Calls Try.prog 52 #[.agg #[.int .i64 x0, .int .i64 x1, .int .i64 x2, .int .i64 x3, .int .i64 x4, .bool x5, .int .i64 x6, .int .i64 x7, .slice xa xn xc, .slice xd xm xe, .int .i64 x10, .int .i64 x11, .int .i64 x12, .int .i64 x13], .agg #[.int .i64 x0, .int .i64 x1, .int .i64 x2, .int .i64 x3, .int .i64 x4, .bool x5, .int .i64 x6, .int .i64 x7, .slice ya yn yc, .slice yd ym ye, .int .i64 x10, .int .i64 x11, .int .i64 x12, .int .i64 x13]] w fun e w' => e = .returned (.bool true) ∧ Below w.heap.size w w' := by
  rw [hs] at C1
  clear hs
  rw [ht] at C2
  clear ht
  go_enter Try.func52, Try.ntmps52
  go_wp2_with fail
  refine (C1.out _ (((Below.refl _ _).alloc (Nat.le_refl _) _).alloc (by simp) _)).mono ?_
  rintro e w1 ⟨rfl, q1, rfl⟩
  go_wp2_with fail
  refine (C2.out _ ((((Below.refl _ _).alloc (Nat.le_refl _) _).alloc (by simp) _).trans (below_dn _ _ _))).mono ?_
  rintro e w2 ⟨rfl, q2, rfl⟩
  go_wp2_with fail
  go_ret
  exact ⟨by simp, (((Below.refl _ _).alloc (Nat.le_refl _) _).alloc (by simp) _).trans (below_dn _ _ _)⟩

theorem same_any (x0 x1 x2 x3 x4 x6 x7 x10 x11 x12 x13 : Int) (x5 : Bool) (xa xd : Option Addr) (xn xc xm xe : Nat) (xF xG : Nat → Int) (y0 y1 y2 y3 y4 y6 y7 y10 y11 y12 y13 : Int) (y5 : Bool) (ya yd : Option Addr) (yn yc ym ye : Nat) (yF yG : Nat → Int) (w : World) (hx1 : IntsAt w .i64 xa xn xF) (hx2 : IntsAt w .i64 xd xm xG) (hy1 : IntsAt w .i64 ya yn yF) (hy2 : IntsAt w .i64 yd ym yG) :
    Calls Try.prog 52 #[.agg #[.int .i64 x0, .int .i64 x1, .int .i64 x2, .int .i64 x3, .int .i64 x4, .bool x5, .int .i64 x6, .int .i64 x7, .slice xa xn xc, .slice xd xm xe, .int .i64 x10, .int .i64 x11, .int .i64 x12, .int .i64 x13], .agg #[.int .i64 y0, .int .i64 y1, .int .i64 y2, .int .i64 y3, .int .i64 y4, .bool y5, .int .i64 y6, .int .i64 y7, .slice ya yn yc, .slice yd ym ye, .int .i64 y10, .int .i64 y11, .int .i64 y12, .int .i64 y13]] w fun e w' => e = .returned (.bool (eqR x0 x1 x2 x3 x4 x6 x7 x10 x11 x12 x13 x5 xa xd xn xc xm xe xF xG y0 y1 y2 y3 y4 y6 y7 y10 y11 y12 y13 y5 ya yd yn yc ym ye yF yG)) ∧ Below w.heap.size w w' := by
  have C1 : Hid (∀ w', Below w.heap.size w w' → Calls Try.prog 74 #[.slice xa xn xc, .slice ya yn yc] w' fun e w'' => e = .returned (.bool (sameB xn xF yn yF)) ∧ ∃ q, w'' = w'.drewN q) := Lib.hid (fun w' hb => ints_any w' (hx1.below hb) (hy1.below hb))
  have C2 : Hid (∀ w', Below w.heap.size w w' → Calls Try.prog 74 #[.slice xd xm xe, .slice yd ym ye] w' fun e w'' => e = .returned (.bool (sameB xm xG ym yG)) ∧ ∃ q, w'' = w'.drewN q) := Lib.hid (fun w' hb => ints_any w' (hx2.below hb) (hy2.below hb))
  unfold eqR
  cases h0 : (x0 == y0)
  · simp only [Bool.and_false, Bool.false_and]
    exact same_any_0 x0 x1 x2 x3 x4 x6 x7 x10 x11 x12 x13 x5 xa xd xn xc xm xe xF xG y0 y1 y2 y3 y4 y6 y7 y10 y11 y12 y13 y5 ya yd yn yc ym ye yF yG w C1 C2 h0
  obtain rfl : x0 = y0 := by simpa using h0
  cases h1 : (x1 == y1)
  · simp only [Bool.and_false, Bool.false_and]
    exact same_any_1 x0 x1 x2 x3 x4 x6 x7 x10 x11 x12 x13 x5 xa xd xn xc xm xe xF xG x0 y1 y2 y3 y4 y6 y7 y10 y11 y12 y13 y5 ya yd yn yc ym ye yF yG w C1 C2 h1
  obtain rfl : x1 = y1 := by simpa using h1
  cases h2 : (x2 == y2)
  · simp only [Bool.and_false, Bool.false_and]
    exact same_any_2 x0 x1 x2 x3 x4 x6 x7 x10 x11 x12 x13 x5 xa xd xn xc xm xe xF xG x0 x1 y2 y3 y4 y6 y7 y10 y11 y12 y13 y5 ya yd yn yc ym ye yF yG w C1 C2 h2
  obtain rfl : x2 = y2 := by simpa using h2
  cases h3 : (x3 == y3)
  · simp only [Bool.and_false, Bool.false_and]
    exact same_any_3 x0 x1 x2 x3 x4 x6 x7 x10 x11 x12 x13 x5 xa xd xn xc xm xe xF xG x0 x1 x2 y3 y4 y6 y7 y10 y11 y12 y13 y5 ya yd yn yc ym ye yF yG w C1 C2 h3
  obtain rfl : x3 = y3 := by simpa using h3
  cases h4 : (x4 == y4)
  · simp only [Bool.and_false, Bool.false_and]
    exact same_any_4 x0 x1 x2 x3 x4 x6 x7 x10 x11 x12 x13 x5 xa xd xn xc xm xe xF xG x0 x1 x2 x3 y4 y6 y7 y10 y11 y12 y13 y5 ya yd yn yc ym ye yF yG w C1 C2 h4
  obtain rfl : x4 = y4 := by simpa using h4
  cases h5 : (x5 == y5)
  · obtain rfl : y5 = !x5 := by cases x5 <;> cases y5 <;> simp_all
    simp only [Bool.and_false, Bool.false_and]
    exact same_any_5 x0 x1 x2 x3 x4 x6 x7 x10 x11 x12 x13 x5 xa xd xn xc xm xe xF xG x0 x1 x2 x3 x4 y6 y7 y10 y11 y12 y13 (!x5) ya yd yn yc ym ye yF yG w C1 C2
  obtain rfl : x5 = y5 := by simpa using h5
  cases h6 : (x6 == y6)
  · simp only [Bool.and_false, Bool.false_and]
    exact same_any_6 x0 x1 x2 x3 x4 x6 x7 x10 x11 x12 x13 x5 xa xd xn xc xm xe xF xG x0 x1 x2 x3 x4 y6 y7 y10 y11 y12 y13 x5 ya yd yn yc ym ye yF yG w C1 C2 h6
  obtain rfl : x6 = y6 := by simpa using h6
  cases h7 : (x7 == y7)
  · simp only [Bool.and_false, Bool.false_and]
    exact same_any_7 x0 x1 x2 x3 x4 x6 x7 x10 x11 x12 x13 x5 xa xd xn xc xm xe xF xG x0 x1 x2 x3 x4 x6 y7 y10 y11 y12 y13 x5 ya yd yn yc ym ye yF yG w C1 C2 h7
  obtain rfl : x7 = y7 := by simpa using h7
  cases hs : sameB xn xF yn yF
  · simp only [Bool.and_false, Bool.false_and]
    exact same_any_8 x0 x1 x2 x3 x4 x6 x7 x10 x11 x12 x13 x5 xa xd xn xc xm xe xF xG x0 x1 x2 x3 x4 x6 x7 y10 y11 y12 y13 x5 ya yd yn yc ym ye yF yG w C1 C2 hs
  cases ht : sameB xm xG ym yG
  · simp only [Bool.and_false, Bool.false_and]
    exact same_any_9 x0 x1 x2 x3 x4 x6 x7 x10 x11 x12 x13 x5 xa xd xn xc xm xe xF xG x0 x1 x2 x3 x4 x6 x7 y10 y11 y12 y13 x5 ya yd yn yc ym ye yF yG w C1 C2 hs ht
  cases h10 : (x10 == y10)
  · simp only [Bool.and_false, Bool.false_and]
    exact same_any_10 x0 x1 x2 x3 x4 x6 x7 x10 x11 x12 x13 x5 xa xd xn xc xm xe xF xG x0 x1 x2 x3 x4 x6 x7 y10 y11 y12 y13 x5 ya yd yn yc ym ye yF yG w C1 C2 h10 hs ht
  obtain rfl : x10 = y10 := by simpa using h10
  cases h11 : (x11 == y11)
  · simp only [Bool.and_false, Bool.false_and]
    exact same_any_11 x0 x1 x2 x3 x4 x6 x7 x10 x11 x12 x13 x5 xa xd xn xc xm xe xF xG x0 x1 x2 x3 x4 x6 x7 x10 y11 y12 y13 x5 ya yd yn yc ym ye yF yG w C1 C2 h11 hs ht
  obtain rfl : x11 = y11 := by simpa using h11
  cases h12 : (x12 == y12)
  · simp only [Bool.and_false, Bool.false_and]
    exact same_any_12 x0 x1 x2 x3 x4 x6 x7 x10 x11 x12 x13 x5 xa xd xn xc xm xe xF xG x0 x1 x2 x3 x4 x6 x7 x10 x11 y12 y13 x5 ya yd yn yc ym ye yF yG w C1 C2 h12 hs ht
  obtain rfl : x12 = y12 := by simpa using h12
  cases h13 : (x13 == y13)
  · simp only [Bool.and_false, Bool.false_and]
    exact same_any_13 x0 x1 x2 x3 x4 x6 x7 x10 x11 x12 x13 x5 xa xd xn xc xm xe xF xG x0 x1 x2 x3 x4 x6 x7 x10 x11 x12 y13 x5 ya yd yn yc ym ye yF yG w C1 C2 h13 hs ht
  obtain rfl : x13 = y13 := by simpa using h13
  simp only [beq_self_eq_true, Bool.and_true, hs, ht]
  exact same_any_14 x0 x1 x2 x3 x4 x6 x7 x10 x11 x12 x13 x5 xa xd xn xc xm xe xF xG x0 x1 x2 x3 x4 x6 x7 x10 x11 x12 x13 x5 ya yd yn yc ym ye yF yG w C1 C2 hs ht

end Go.Proofs.Ytnkgbigjpihfeaa.Ma
