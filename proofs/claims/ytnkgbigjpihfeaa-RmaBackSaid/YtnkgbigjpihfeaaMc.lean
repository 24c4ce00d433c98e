/- rma.Clone, few, awake of chapter 14. -/
import Derived.Test.YtnkgbigjpihfeaaMa
import Derived.Laws.Rows
import Derived.Deep.RegionWith
import Derived.Deep.RegionHeld3
set_option linter.unusedVariables false
set_option linter.unusedSimpArgs false
namespace Go.Proofs.Ytnkgbigjpihfeaa.Ma
open Go.RowKit Go.Proofs.Ytnkgbigjpihfeaa.Lib

theorem next11 (w : World) : Calls Try.prog 76 #[.int .i64 1, .int .i64 1] w fun e w' => e = .returned (.tuple #[.int .i64 2, .int .i64 0]) ∧ w = w' := by
  go_enter Try.func76, Try.ntmps76
  go_wp2
  go_ret2
  exact ⟨rfl, rfl⟩

theorem awake14 (w : World) : Calls Try.prog 48 #[] w fun e w' => e = .returned (.bool true) ∧ w = w' := by
  go_enter Try.func48, Try.ntmps48
  go_wp2_with fail
  refine (next11 _).mono ?_
  rintro e w' ⟨rfl, rfl⟩
  go_wp2_with fail
  go_ret
  exact ⟨by simp, rfl⟩

def fewB (n m : Nat) : Bool := decide (n ≤ 300 ∧ m ≤ 300)

theorem few_any (x0 x1 x2 x3 x4 x6 x7 x10 x11 x12 x13 : Int) (x5 : Bool) (xa xd : Option Addr) (xn xc xm xe : Nat) (w : World) (h1 : xn ≤ 9223372036854775807) (h2 : xm ≤ 9223372036854775807) :
    Calls Try.prog 49 #[.agg #[.int .i64 x0, .int .i64 x1, .int .i64 x2, .int .i64 x3, .int .i64 x4, .bool x5, .int .i64 x6, .int .i64 x7, .slice xa xn xc, .slice xd xm xe, .int .i64 x10, .int .i64 x11, .int .i64 x12, .int .i64 x13]] w
      fun e w' => e = .returned (.bool (fewB xn xm)) ∧ Below w.heap.size w w' := by
  by_cases hn : xn ≤ 300
  · by_cases hm : xm ≤ 300
    · have hs : fewB xn xm = true := by simp [fewB, hn, hm]
      rw [hs]
      clear hs
      go_enter Try.func49, Try.ntmps49
      go_wp2_with fail
      go_ret
      exact ⟨by simp <;> omega, (Below.refl _ _).alloc (Nat.le_refl _) _⟩
    · have hs : fewB xn xm = false := by simp [fewB, hm]
      rw [hs]
      clear hs
      go_enter Try.func49, Try.ntmps49
      go_wp2_with fail
      go_ret
      exact ⟨by simp <;> omega, (Below.refl _ _).alloc (Nat.le_refl _) _⟩
  · have hs : fewB xn xm = false := by simp [fewB, hn]
    rw [hs]
    clear hs
    go_enter Try.func49, Try.ntmps49
    go_wp2_with fail
    go_ret
    exact ⟨by simp <;> omega, (Below.refl _ _).alloc (Nat.le_refl _) _⟩

theorem below_lee {B B' : Nat} {w w' : World} (h : Below B w w') (hb : B' ≤ B) : Below B' w w' := ⟨h.os, h.tape, h.output, h.size, fun k hk => h.block k (by omega)⟩
theorem below_alloc2 (w : World) (o1 o2 : Obj) : Below w.heap.size w ((w.alloc o1).alloc o2) := ((Below.refl _ _).alloc (Nat.le_refl _) _).alloc (by simp) _

theorem info76 : (Try.prog.info? 76).map (·.size) = some 14 := by kernel_rfl
theorem setRow_h (w : World) (b : Nat) (cs old : Array Value) (t : TypeId) (fr : Nat × Nat) (h : w.heap[b]? = some (.cells old t fr)) : (w.setRow b cs).heap[b]? = some (.cells cs t fr) := setRow_heap _ _ _ _ _ _ h

/-- A clone's answer. -/
def clonePost (x0 x1 x2 x3 x4 x6 x7 x10 x11 x12 x13 : Int) (x5 : Bool) (xa xd : Option Addr) (xn xc xm xe : Nat) (xF xG : Nat → Int) (w : World) (e : Ending) (w' : World) : Prop :=
  ∃ a1 c1 a2 c2, e = .returned (.agg #[.int .i64 x0, .int .i64 x1, .int .i64 x2, .int .i64 x3, .int .i64 x4, .bool x5, .int .i64 x6, .int .i64 x7, .slice a1 xn c1, .slice a2 xm c2, .int .i64 x10, .int .i64 x11, .int .i64 x12, .int .i64 x13]) ∧ IntsAt w' .i64 a1 xn xF ∧ IntsAt w' .i64 a2 xm xG ∧ (a1 = none → xn = 0) ∧ (a2 = none → xm = 0) ∧ Below w.heap.size w w'

theorem ints_setcell {w : World} {k : IntKind} {a : Option Addr} {n : Nat} {F : Nat → Int} (h : IntsAt w k a n F) {B : Nat} (hB : ∀ p, a = some p → B < p.block) (o : Nat) (v : Value) : IntsAt (w.setCell ⟨B, o, none⟩ v) k a n F := by
  refine ⟨h.1, fun hp => ?_⟩
  obtain ⟨b, off, rfl, hlt, hc⟩ := h.2 hp
  have := hB _ rfl
  exact ⟨b, off, rfl, by simpa using hlt, fun j hj => (World.cell?_setCell_far _ _ _ _ (by show B ≠ b; exact Nat.ne_of_lt this)).trans (hc j hj)⟩

theorem below_setRow {B : Nat} {w w1 : World} (h : Below B w w1) (g : Nat) (cs : Array Value) (hg : B ≤ g) : Below B w (w1.setRow g cs) := by
  refine ⟨h.os, h.tape, h.output, by simp; exact h.size, fun i hi => ?_⟩
  rw [setRow_other w1 g i cs (by omega)]
  exact h.block i hi

theorem ints_setrow {w : World} {k : IntKind} {a : Option Addr} {n : Nat} {F : Nat → Int} (h : IntsAt w k a n F) {B : Nat} (hB : ∀ p, a = some p → B < p.block) (cs : Array Value) : IntsAt (w.setRow B cs) k a n F := by
  refine ⟨h.1, fun hp => ?_⟩
  obtain ⟨b, off, rfl, hlt, hc⟩ := h.2 hp
  have := hB _ rfl
  exact ⟨b, off, rfl, by simpa using hlt, fun j hj => (World.cell?_of_block (a := ⟨b, off + j, none⟩) (setRow_other w B b cs (Nat.ne_of_gt this))).trans (hc j hj)⟩

set_option maxRecDepth 100000 in
set_option maxHeartbeats 1600000 in
theorem rclone_any (x0 x1 x2 x3 x4 x6 x7 x10 x11 x12 x13 : Int) (x5 : Bool) (xa xd : Option Addr) (xn xc xm xe : Nat) (xF xG : Nat → Int) (w : World) (h1 : IntsAt w .i64 xa xn xF) (h2 : IntsAt w .i64 xd xm xG)
    (ha : xa = none → xn = 0) (hd : xd = none → xm = 0) (hn : xn ≤ 300) (hm : xm ≤ 300) :
    Calls Try.prog 53 #[.agg #[.int .i64 x0, .int .i64 x1, .int .i64 x2, .int .i64 x3, .int .i64 x4, .bool x5, .int .i64 x6, .int .i64 x7, .slice xa xn xc, .slice xd xm xe, .int .i64 x10, .int .i64 x11, .int .i64 x12, .int .i64 x13]] w fun e w' => clonePost x0 x1 x2 x3 x4 x6 x7 x10 x11 x12 x13 x5 xa xd xn xc xm xe xF xG w e w' := by
  have C1 : Hid (∀ w', Below w.heap.size w w' → Calls Try.prog 77 #[.slice xa xn xc] w' fun e w'' => ∃ a' c', e = .returned (.slice a' xn c') ∧ IntsAt w'' .i64 a' xn xF ∧ (a' = none → xn = 0) ∧ (∀ p, a' = some p → w'.heap.size ≤ p.block) ∧ Below w'.heap.size w' w'') := Lib.hid (fun w' hb => clone_any w' (h1.below hb) ha (by omega))
  have C2 : Hid (∀ w', Below w.heap.size w w' → Calls Try.prog 77 #[.slice xd xm xe] w' fun e w'' => ∃ a' c', e = .returned (.slice a' xm c') ∧ IntsAt w'' .i64 a' xm xG ∧ (a' = none → xm = 0) ∧ (∀ p, a' = some p → w'.heap.size ≤ p.block) ∧ Below w'.heap.size w' w'') := Lib.hid (fun w' hb => clone_any w' (h2.below hb) hd (by omega))
  clear h1 h2 ha hd
  go_enter Try.func53, Try.ntmps53
  go_wp2_with fail
  have hW := below_alloc2 w (.cells #[.int .i64 x0, .int .i64 x1, .int .i64 x2, .int .i64 x3, .int .i64 x4, .bool x5, .int .i64 x6, .int .i64 x7, .slice xa xn xc, .slice xd xm xe, .int .i64 x10, .int .i64 x11, .int .i64 x12, .int .i64 x13] 76) (.cells #[.int .i64 0, .int .i64 0, .int .i64 0, .int .i64 0, .int .i64 0, .bool false, .int .i64 0, .int .i64 0, .slice none 0 0, .slice none 0 0, .int .i64 0, .int .i64 0, .int .i64 0, .int .i64 0] 76)
  have hB : ((w.alloc (.cells #[.int .i64 x0, .int .i64 x1, .int .i64 x2, .int .i64 x3, .int .i64 x4, .bool x5, .int .i64 x6, .int .i64 x7, .slice xa xn xc, .slice xd xm xe, .int .i64 x10, .int .i64 x11, .int .i64 x12, .int .i64 x13] 76)).alloc (.cells #[.int .i64 0, .int .i64 0, .int .i64 0, .int .i64 0, .int .i64 0, .bool false, .int .i64 0, .int .i64 0, .slice none 0 0, .slice none 0 0, .int .i64 0, .int .i64 0, .int .i64 0, .int .i64 0] 76)).heap[w.heap.size]? = some (.cells #[.int .i64 x0, .int .i64 x1, .int .i64 x2, .int .i64 x3, .int .i64 x4, .bool x5, .int .i64 x6, .int .i64 x7, .slice xa xn xc, .slice xd xm xe, .int .i64 x10, .int .i64 x11, .int .i64 x12, .int .i64 x13] 76 (0, 0)) := (((Below.refl _ _).alloc (Nat.le_refl _) _).block w.heap.size (by simp)).trans (heap_alloc_new _ _)
  have hR : ((w.alloc (.cells #[.int .i64 x0, .int .i64 x1, .int .i64 x2, .int .i64 x3, .int .i64 x4, .bool x5, .int .i64 x6, .int .i64 x7, .slice xa xn xc, .slice xd xm xe, .int .i64 x10, .int .i64 x11, .int .i64 x12, .int .i64 x13] 76)).alloc (.cells #[.int .i64 0, .int .i64 0, .int .i64 0, .int .i64 0, .int .i64 0, .bool false, .int .i64 0, .int .i64 0, .slice none 0 0, .slice none 0 0, .int .i64 0, .int .i64 0, .int .i64 0, .int .i64 0] 76)).heap[w.heap.size + 1]? = some (.cells #[.int .i64 0, .int .i64 0, .int .i64 0, .int .i64 0, .int .i64 0, .bool false, .int .i64 0, .int .i64 0, .slice none 0 0, .slice none 0 0, .int .i64 0, .int .i64 0, .int .i64 0, .int .i64 0] 76 (0, 0)) := by
    have := heap_alloc_new (w.alloc (.cells #[.int .i64 x0, .int .i64 x1, .int .i64 x2, .int .i64 x3, .int .i64 x4, .bool x5, .int .i64 x6, .int .i64 x7, .slice xa xn xc, .slice xd xm xe, .int .i64 x10, .int .i64 x11, .int .i64 x12, .int .i64 x13] 76)) (.cells #[.int .i64 0, .int .i64 0, .int .i64 0, .int .i64 0, .int .i64 0, .bool false, .int .i64 0, .int .i64 0, .slice none 0 0, .slice none 0 0, .int .i64 0, .int .i64 0, .int .i64 0, .int .i64 0] 76)
    simpa using this
  have hsz : ((w.alloc (.cells #[.int .i64 x0, .int .i64 x1, .int .i64 x2, .int .i64 x3, .int .i64 x4, .bool x5, .int .i64 x6, .int .i64 x7, .slice xa xn xc, .slice xd xm xe, .int .i64 x10, .int .i64 x11, .int .i64 x12, .int .i64 x13] 76)).alloc (.cells #[.int .i64 0, .int .i64 0, .int .i64 0, .int .i64 0, .int .i64 0, .bool false, .int .i64 0, .int .i64 0, .slice none 0 0, .slice none 0 0, .int .i64 0, .int .i64 0, .int .i64 0, .int .i64 0] 76)).heap.size = w.heap.size + 2 := by simp
  generalize (w.alloc (.cells #[.int .i64 x0, .int .i64 x1, .int .i64 x2, .int .i64 x3, .int .i64 x4, .bool x5, .int .i64 x6, .int .i64 x7, .slice xa xn xc, .slice xd xm xe, .int .i64 x10, .int .i64 x11, .int .i64 x12, .int .i64 x13] 76)).alloc (.cells #[.int .i64 0, .int .i64 0, .int .i64 0, .int .i64 0, .int .i64 0, .bool false, .int .i64 0, .int .i64 0, .slice none 0 0, .slice none 0 0, .int .i64 0, .int .i64 0, .int .i64 0, .int .i64 0] 76) = W at *
  have c8 : W.cell? ⟨w.heap.size, 8, none⟩ = some (.slice xa xn xc) := by simp [World.cell?, hB]
  have c9 : W.cell? ⟨w.heap.size, 9, none⟩ = some (.slice xd xm xe) := by simp [World.cell?, hB]
  have lB : w.heap.size < W.heap.size := (Array.getElem?_eq_some_iff.1 hB).1
  have KS : Hid (∀ w', Below W.heap.size W w' → w'.cell? ⟨w.heap.size, 8, none⟩ = some (.slice xa xn xc) ∧ w'.cell? ⟨w.heap.size, 9, none⟩ = some (.slice xd xm xe)) := Lib.hid (fun w' hq => ⟨(hq.cell (p := ⟨w.heap.size, 8, none⟩) lB).trans c8, (hq.cell (p := ⟨w.heap.size, 9, none⟩) lB).trans c9⟩)
  have f0 : ∀ o, W.frozen? ⟨w.heap.size, o, none⟩ = false := fun o => by simp [World.frozen?, hB]
  have KF : Hid (∀ w', Below W.heap.size W w' → ∀ o, w'.frozen? ⟨w.heap.size, o, none⟩ = false) := Lib.hid (fun w' hq o => (hq.frozen (p := ⟨w.heap.size, o, none⟩) lB).trans (f0 o))
  replace hB := Lib.hid hB
  replace hR := Lib.hid hR
  replace hW := Lib.hid hW
  replace hsz := Lib.hid hsz
  clear f0
  go_region_with (first
      | (go_at_call 77; refine (C1.out _ (hW.out.trans (Below.drew (Below.refl _ _)))).mono ?_; rintro e w3 ⟨a1, c1, rfl, i1, n1, g1, hb3⟩; replace i1 := Lib.hid i1; replace n1 := Lib.hid n1; replace g1 := Lib.hid g1; have hb4 : Below W.heap.size W w3 := Below.trans (Below.drew (Below.refl _ _)) hb3; have y8 : w3.cell? ⟨w.heap.size, 8, none⟩ = some (.slice xa xn xc) := (KS.out _ hb4).1; have y9 : w3.cell? ⟨w.heap.size, 9, none⟩ = some (.slice xd xm xe) := (KS.out _ hb4).2)
      | (go_at_call 77; refine (C2.out _ (hW.out.trans (below_lee hb4 (by omega)))).mono ?_; rintro e w4 ⟨a2, c2, rfl, i2, n2, g2, hb6⟩; replace i2 := Lib.hid i2; replace n2 := Lib.hid n2; replace g2 := Lib.hid g2; have hb5 : Below W.heap.size W w4 := Below.trans hb4 (below_lee hb6 (hb4.size)); have z8 : w4.frozen? ⟨w.heap.size, 8, none⟩ = false := KF.out _ hb5 8; have z9 : w4.frozen? ⟨w.heap.size, 9, none⟩ = false := KF.out _ hb5 9; have y8 : w4.cell? ⟨w.heap.size, 8, none⟩ = some (.slice xa xn xc) := (KS.out _ hb5).1; have y9 : w4.cell? ⟨w.heap.size, 9, none⟩ = some (.slice xd xm xe) := (KS.out _ hb5).2))
  all_goals
    first
      | generalize hw5 : (w4.setCell ⟨w.heap.size, 8, none⟩ (.slice a1 xn c1)).setCell ⟨w.heap.size, 9, none⟩ (.slice a2 xm c2) = w5
      | generalize hw5 : (w4.setCell ⟨w.heap.size, 9, none⟩ (.slice a2 xm c2)).setCell ⟨w.heap.size, 8, none⟩ (.slice a1 xn c1) = w5
    have b1 := (hb5.block w.heap.size lB).trans hB.out
    have b3 : w5.heap[w.heap.size]? = some (.cells #[.int .i64 x0, .int .i64 x1, .int .i64 x2, .int .i64 x3, .int .i64 x4, .bool x5, .int .i64 x6, .int .i64 x7, .slice a1 xn c1, .slice a2 xm c2, .int .i64 x10, .int .i64 x11, .int .i64 x12, .int .i64 x13] 76 (0, 0)) := by
      rw [← hw5]
      first
        | exact heap_setCell_same _ w.heap.size 9 _ _ (.slice a2 xm c2) (heap_setCell_same w4 w.heap.size 8 _ _ (.slice a1 xn c1) b1)
        | exact heap_setCell_same _ w.heap.size 8 _ _ (.slice a1 xn c1) (heap_setCell_same w4 w.heap.size 9 _ _ (.slice a2 xm c2) b1)
    have hS := hsz.out
    have r1 : w5.heap[w.heap.size + 1]? = some (.cells #[.int .i64 0, .int .i64 0, .int .i64 0, .int .i64 0, .int .i64 0, .bool false, .int .i64 0, .int .i64 0, .slice none 0 0, .slice none 0 0, .int .i64 0, .int .i64 0, .int .i64 0, .int .i64 0] 76 (0, 0)) := by
      rw [← hw5]
      exact (heap_setCell_other _ ⟨w.heap.size, _, none⟩ (w.heap.size + 1) _ (by show w.heap.size + 1 ≠ w.heap.size; omega)).trans ((heap_setCell_other w4 ⟨w.heap.size, _, none⟩ (w.heap.size + 1) _ (by show w.heap.size + 1 ≠ w.heap.size; omega)).trans ((hb5.block (w.heap.size + 1) (by omega)).trans hR.out))
    have f1 : ∀ p, a1 = some p → w.heap.size < p.block := fun p e => Nat.lt_of_lt_of_le lB (g1.out p e)
    have f2 : ∀ p, a2 = some p → w.heap.size < p.block := fun p e => Nat.lt_of_lt_of_le lB (Nat.le_trans hb4.size (g2.out p e))
    have f1' : ∀ p, a1 = some p → w.heap.size + 1 < p.block := fun p e => Nat.lt_of_lt_of_le (show w.heap.size + 1 < W.drew.heap.size by show w.heap.size + 1 < W.heap.size; omega) (g1.out p e)
    have f2' : ∀ p, a2 = some p → w.heap.size + 1 < p.block := fun p e => Nat.lt_of_lt_of_le (show w.heap.size + 1 < W.heap.size by omega) (Nat.le_trans hb4.size (g2.out p e))
    have j1 : IntsAt w5 .i64 a1 xn xF := by
      rw [← hw5]
      exact ints_setcell (ints_setcell (i1.out.below hb6) f1 _ _) f1 _ _
    have j2 : IntsAt w5 .i64 a2 xm xG := by
      rw [← hw5]
      exact ints_setcell (ints_setcell i2.out f2 _ _) f2 _ _
    have bf : Below w.heap.size w w5 := by
      rw [← hw5]
      exact ((hW.out.trans (below_lee hb5 (Nat.le_of_lt lB))).setCell (Nat.le_refl _) _).setCell (Nat.le_refl _) _
    have k1 := Lib.hid (ints_setrow j1 f1' #[.int .i64 x0, .int .i64 x1, .int .i64 x2, .int .i64 x3, .int .i64 x4, .bool x5, .int .i64 x6, .int .i64 x7, .slice a1 xn c1, .slice a2 xm c2, .int .i64 x10, .int .i64 x11, .int .i64 x12, .int .i64 x13])
    have k2 := Lib.hid (ints_setrow j2 f2' #[.int .i64 x0, .int .i64 x1, .int .i64 x2, .int .i64 x3, .int .i64 x4, .bool x5, .int .i64 x6, .int .i64 x7, .slice a1 xn c1, .slice a2 xm c2, .int .i64 x10, .int .i64 x11, .int .i64 x12, .int .i64 x13])
    have k3 : Below w.heap.size w (w5.setRow (w.heap.size + 1) #[.int .i64 x0, .int .i64 x1, .int .i64 x2, .int .i64 x3, .int .i64 x4, .bool x5, .int .i64 x6, .int .i64 x7, .slice a1 xn c1, .slice a2 xm c2, .int .i64 x10, .int .i64 x11, .int .i64 x12, .int .i64 x13]) := below_setRow bf _ _ (by omega)
    replace k3 := Lib.hid k3
    have b9 := setRow_h w5 (w.heap.size + 1) #[.int .i64 x0, .int .i64 x1, .int .i64 x2, .int .i64 x3, .int .i64 x4, .bool x5, .int .i64 x6, .int .i64 x7, .slice a1 xn c1, .slice a2 xm c2, .int .i64 x10, .int .i64 x11, .int .i64 x12, .int .i64 x13] _ _ _ r1
    replace b9 := Lib.hid b9
    clear hw5 b1 y8 y9 z8 z9 hb3 hb4 hb5 hb6 i1 i2 g1 g2 KS KF hB hR hW hsz f1 f2 f1' f2' j1 j2 bf c8 c9 C1 C2
    go_wp2_with (first
      | (refine wpList_load_row rfl 76 _ rfl w.heap.size rfl 76 #[.int .i64 x0, .int .i64 x1, .int .i64 x2, .int .i64 x3, .int .i64 x4, .bool x5, .int .i64 x6, .int .i64 x7, .slice a1 xn c1, .slice a2 xm c2, .int .i64 x10, .int .i64 x11, .int .i64 x12, .int .i64 x13] (0, 0) _ b3 Try.underlying76 rfl info76 ?_)
      | (refine wpList_store_row rfl 76 _ _ rfl (w.heap.size + 1) #[.int .i64 x0, .int .i64 x1, .int .i64 x2, .int .i64 x3, .int .i64 x4, .bool x5, .int .i64 x6, .int .i64 x7, .slice a1 xn c1, .slice a2 xm c2, .int .i64 x10, .int .i64 x11, .int .i64 x12, .int .i64 x13] rfl rfl 76 #[.int .i64 0, .int .i64 0, .int .i64 0, .int .i64 0, .int .i64 0, .bool false, .int .i64 0, .int .i64 0, .slice none 0 0, .slice none 0 0, .int .i64 0, .int .i64 0, .int .i64 0, .int .i64 0] r1 info76 rfl (by simp [Value.oneCell']) ?_))
    refine bodyPost_ret (results_cell_row (p := 2) (ty := 76) rfl _ _ (w.heap.size + 1) 76 #[.int .i64 x0, .int .i64 x1, .int .i64 x2, .int .i64 x3, .int .i64 x4, .bool x5, .int .i64 x6, .int .i64 x7, .slice a1 xn c1, .slice a2 xm c2, .int .i64 x10, .int .i64 x11, .int .i64 x12, .int .i64 x13] (0, 0) _ (by rfl) b9.out Try.underlying76 rfl info76) rfl ⟨a1, c1, a2, c2, rfl, k1.out, k2.out, n1.out, n2.out, k3.out⟩

end Go.Proofs.Ytnkgbigjpihfeaa.Ma
