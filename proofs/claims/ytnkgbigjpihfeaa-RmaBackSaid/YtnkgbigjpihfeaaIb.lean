/- recouplaw14.Theirs. -/
import Derived.Test.YtnkgbigjpihfeaaIa
set_option linter.unusedVariables false
set_option linter.unusedSimpArgs false
namespace Go.Proofs.Ytnkgbigjpihfeaa.Ma
open Go.RowKit Go.Proofs.Ytnkgbigjpihfeaa.Lib

/-- What stays as the lists are made: the boxes, what was there; T tells that a block is one of the lists' own. -/
structure Boxes (w : World) (X Z : Array Value) (w' : World) : Prop where
  bel : Below w.heap.size w w'
  sz : w.heap.size + 3 ≤ w'.heap.size
  bX : w'.heap[w.heap.size + 1 + 1]? = some (.cells X 76 (0, 0))
  bZ : w'.heap[w.heap.size + 1]? = some (.cells Z 76 (0, 0))
  bY : w'.heap[w.heap.size]? = some (.cells X 73 (0, 0))

theorem Boxes.drew {w w' : World} {X Z : Array Value} (h : Boxes w X Z w') : Boxes w X Z w'.drew := ⟨h.bel.drew, h.sz, h.bX, h.bZ, h.bY⟩
theorem Boxes.alloc {w w' : World} {X Z : Array Value} (h : Boxes w X Z w') (o : Obj) : Boxes w X Z (w'.alloc o) := ⟨h.bel.alloc (by have := h.sz; omega) _, by have := h.sz; simp; omega, alloc_keep h.bX, alloc_keep h.bZ, alloc_keep h.bY⟩
theorem Boxes.grown {w w' w'' : World} {X Z : Array Value} {g : Nat} (h : Boxes w X Z w') (k : w'.grownBy w'' (some g)) (hg : w.heap.size + 3 ≤ g) : Boxes w X Z w'' := by
  have hs := h.sz
  refine ⟨h.bel.trans ⟨k.os, k.tape, k.output, k.size, fun i hi => k.block i (by omega) (fun e => by injection e with e; omega)⟩, Nat.le_trans hs k.size, (k.block _ (by omega) (fun e => by injection e with e; omega)).trans h.bX, (k.block _ (by omega) (fun e => by injection e with e; omega)).trans h.bZ, (k.block _ (by omega) (fun e => by injection e with e; omega)).trans h.bY⟩

def pend (w : World) (g : Nat) : Prop := w.heap[g]? = some (.cells #[] 3 (0, 0))
theorem pend.alloc {w : World} {g : Nat} (h : pend w g) (o : Obj) : pend (w.alloc o) g := alloc_keep h
theorem pend.grown {w w' : World} {g g' : Nat} (h : pend w g) (k : w.grownBy w' (some g')) (hne : g ≠ g') : pend w' g := (k.block g (Array.getElem?_eq_some_iff.1 h).1 (fun e => by injection e with e; exact hne e)).trans h

theorem alloc_at0 {w : World} {cs : Array Value} {t : TypeId} : (w.alloc (.cells cs t)).heap[w.heap.size]? = some (.cells cs t (0, 0)) := heap_alloc_new _ _
theorem alloc_at1 {w : World} {o : Obj} {cs : Array Value} {t : TypeId} : ((w.alloc o).alloc (.cells cs t)).heap[w.heap.size + 1]? = some (.cells cs t (0, 0)) := alloc_at (by simp)
theorem alloc_k0 {w : World} {o : Obj} {cs : Array Value} {t : TypeId} : ((w.alloc (.cells cs t)).alloc o).heap[w.heap.size]? = some (.cells cs t (0, 0)) := alloc_keep (heap_alloc_new _ _)

theorem ints_alloc {w : World} {k : IntKind} {a : Option Addr} {n : Nat} {F : Nat → Int} (h : IntsAt w k a n F) (o : Obj) : IntsAt (w.alloc o) k a n F := h.below ((Below.refl _ _).alloc (Nat.le_refl _) _)
theorem ints_grown {w w' : World} {k : IntKind} {a : Option Addr} {n g : Nat} {F : Nat → Int} (h : IntsAt w k a n F) (hg : w.grownBy w' (some g)) (hne : ∀ p, a = some p → p.block ≠ g) : IntsAt w' k a n F := by
  refine ⟨h.1, fun hp => ?_⟩
  obtain ⟨b, off, rfl, hlt, hc⟩ := h.2 hp
  exact ⟨b, off, rfl, Nat.lt_of_lt_of_le hlt hg.size, fun j hj => (World.cell?_of_block (a := ⟨b, off + j, none⟩) (hg.block b hlt (fun e => by injection e with e; exact hne _ rfl e))).trans (hc j hj)⟩

set_option maxRecDepth 100000 in
set_option maxHeartbeats 3200000 in
theorem theirs14 (x0 x1 x2 x3 x4 x6 x7 x10 x11 x12 x13 : Int) (x5 : Bool) (xa xd : Option Addr) (xn xc xm xe : Nat) (xF xG : Nat → Int) (w : World) (h1 : IntsAt w .i64 xa xn xF) (h2 : IntsAt w .i64 xd xm xG)
    (ha : xa = none → xn = 0 ∧ xc = 0) (hd : xd = none → xm = 0 ∧ xe = 0) (hn : xn ≤ 300) (hm : xm ≤ 300) :
    Calls Try.prog 51 #[.agg #[.int .i64 x0, .int .i64 x1, .int .i64 x2, .int .i64 x3, .int .i64 x4, .bool x5, .int .i64 x6, .int .i64 x7, .slice xa xn xc, .slice xd xm xe, .int .i64 x10, .int .i64 x11, .int .i64 x12, .int .i64 x13]] w fun e w' => clonePost x0 x1 x2 x3 x4 x6 x7 x10 x11 x12 x13 x5 xa xd xn xc xm xe xF xG w e w' := by
  have H1 : Hid (∀ w', Boxes w #[.int .i64 x0, .int .i64 x1, .int .i64 x2, .int .i64 x3, .int .i64 x4, .bool x5, .int .i64 x6, .int .i64 x7, .slice xa xn xc, .slice xd xm xe, .int .i64 x10, .int .i64 x11, .int .i64 x12, .int .i64 x13] #[.int .i64 0, .int .i64 0, .int .i64 0, .int .i64 0, .int .i64 0, .bool false, .int .i64 0, .int .i64 0, .slice none 0 0, .slice none 0 0, .int .i64 0, .int .i64 0, .int .i64 0, .int .i64 0] w' → IntsAt w' .i64 xa xn xF) := Lib.hid (fun w' hb => h1.below hb.bel)
  have H2 : Hid (∀ w', Boxes w #[.int .i64 x0, .int .i64 x1, .int .i64 x2, .int .i64 x3, .int .i64 x4, .bool x5, .int .i64 x6, .int .i64 x7, .slice xa xn xc, .slice xd xm xe, .int .i64 x10, .int .i64 x11, .int .i64 x12, .int .i64 x13] #[.int .i64 0, .int .i64 0, .int .i64 0, .int .i64 0, .int .i64 0, .bool false, .int .i64 0, .int .i64 0, .slice none 0 0, .slice none 0 0, .int .i64 0, .int .i64 0, .int .i64 0, .int .i64 0] w' → IntsAt w' .i64 xd xm xG) := Lib.hid (fun w' hb => h2.below hb.bel)
  replace ha := Lib.hid ha
  replace hd := Lib.hid hd
  clear h1 h2
  go_enter Try.func51, Try.ntmps51
  go_wp2_with fail
  generalize hw3 : World.alloc (World.alloc (World.alloc w _) _) _ = W
  have hBX : Boxes w #[.int .i64 x0, .int .i64 x1, .int .i64 x2, .int .i64 x3, .int .i64 x4, .bool x5, .int .i64 x6, .int .i64 x7, .slice xa xn xc, .slice xd xm xe, .int .i64 x10, .int .i64 x11, .int .i64 x12, .int .i64 x13] #[.int .i64 0, .int .i64 0, .int .i64 0, .int .i64 0, .int .i64 0, .bool false, .int .i64 0, .int .i64 0, .slice none 0 0, .slice none 0 0, .int .i64 0, .int .i64 0, .int .i64 0, .int .i64 0] W := by
    rw [← hw3]
    exact ⟨(((Below.refl _ _).alloc (Nat.le_refl _) _).alloc (by simp) _).alloc (by simp <;> omega) _, by simp, alloc_at (by simp), alloc_keep (alloc_at (by simp)), alloc_keep (alloc_keep (alloc_at rfl))⟩
  have hY := hBX.bY
  have c8 : W.cell? ⟨w.heap.size, 8, none⟩ = some (.slice xa xn xc) := by simp [World.cell?, hY]
  have c9 : W.cell? ⟨w.heap.size, 9, none⟩ = some (.slice xd xm xe) := by simp [World.cell?, hY]
  have hlW := hBX.sz
  have hB := Lib.hid hBX.drew
  have hlt : w.heap.size < W.heap.size := by omega
  have KS : Hid (∀ w', Boxes w #[.int .i64 x0, .int .i64 x1, .int .i64 x2, .int .i64 x3, .int .i64 x4, .bool x5, .int .i64 x6, .int .i64 x7, .slice xa xn xc, .slice xd xm xe, .int .i64 x10, .int .i64 x11, .int .i64 x12, .int .i64 x13] #[.int .i64 0, .int .i64 0, .int .i64 0, .int .i64 0, .int .i64 0, .bool false, .int .i64 0, .int .i64 0, .slice none 0 0, .slice none 0 0, .int .i64 0, .int .i64 0, .int .i64 0, .int .i64 0] w' → w'.cell? ⟨w.heap.size, 8, none⟩ = some (.slice xa xn xc) ∧ w'.cell? ⟨w.heap.size, 9, none⟩ = some (.slice xd xm xe)) := Lib.hid (fun w' hb => by have := hb.bY; exact ⟨by simp [World.cell?, this], by simp [World.cell?, this]⟩)
  have KX : Hid (∀ w', Boxes w #[.int .i64 x0, .int .i64 x1, .int .i64 x2, .int .i64 x3, .int .i64 x4, .bool x5, .int .i64 x6, .int .i64 x7, .slice xa xn xc, .slice xd xm xe, .int .i64 x10, .int .i64 x11, .int .i64 x12, .int .i64 x13] #[.int .i64 0, .int .i64 0, .int .i64 0, .int .i64 0, .int .i64 0, .bool false, .int .i64 0, .int .i64 0, .slice none 0 0, .slice none 0 0, .int .i64 0, .int .i64 0, .int .i64 0, .int .i64 0] w' → w'.cell? ⟨w.heap.size + 1 + 1, 8, none⟩ = some (.slice xa xn xc) ∧ w'.cell? ⟨w.heap.size + 1 + 1, 9, none⟩ = some (.slice xd xm xe) ∧ w'.frozen? ⟨w.heap.size + 1 + 1, 8, none⟩ = false ∧ w'.frozen? ⟨w.heap.size + 1 + 1, 9, none⟩ = false) := Lib.hid (fun w' hb => by have := hb.bX; exact ⟨by simp [World.cell?, this], by simp [World.cell?, this], by simp [World.frozen?, this], by simp [World.frozen?, this]⟩)
  clear hw3 hBX hY
  go_region_held3 (fun w' => w'.cell? ⟨w.heap.size, 8, none⟩ = some (.slice xa xn xc) ∧ w'.cell? ⟨w.heap.size, 9, none⟩ = some (.slice xd xm xe)) (first
      | exact KS.out _ (by first | exact hB.out | exact hB.out.alloc _ | exact (hB.out.alloc _).alloc _)
      | exact ⟨(World.cell?_setCell_far _ _ _ _ (by show w.heap.size + 1 + 1 ≠ w.heap.size; omega)).trans (KS.out _ hB.out).1, (World.cell?_setCell_far _ _ _ _ (by show w.heap.size + 1 + 1 ≠ w.heap.size; omega)).trans (KS.out _ hB.out).2⟩
      | exact ⟨(World.cell?_setCell_far _ _ _ _ (by show w.heap.size + 1 + 1 ≠ w.heap.size; omega)).trans ((World.cell?_setCell_far _ _ _ _ (by show w.heap.size + 1 + 1 ≠ w.heap.size; omega)).trans (KS.out _ hB.out).1), (World.cell?_setCell_far _ _ _ _ (by show w.heap.size + 1 + 1 ≠ w.heap.size; omega)).trans ((World.cell?_setCell_far _ _ _ _ (by show w.heap.size + 1 + 1 ≠ w.heap.size; omega)).trans (KS.out _ hB.out).2)⟩)
    (first
      | (refine step_append_ints rfl _ _ rfl _ rfl ?_ xa xn xc xF rfl ?_ ha.out ?_ ?_; (first | exact alloc_at0 | exact alloc_at1 | exact alloc_k0 | exact hP.out); (refine H1.out _ ?_; (first | exact hB.out | exact hB.out.alloc _ | exact (hB.out.alloc _).alloc _)); omega; intro v1 w1 hap; obtain ⟨a1, c1, rfl, i1, n1, g1, l1, k1⟩ := hap; have hsz0 := hB.out.sz; have hB' : Boxes w #[.int .i64 x0, .int .i64 x1, .int .i64 x2, .int .i64 x3, .int .i64 x4, .bool x5, .int .i64 x6, .int .i64 x7, .slice xa xn xc, .slice xd xm xe, .int .i64 x10, .int .i64 x11, .int .i64 x12, .int .i64 x13] #[.int .i64 0, .int .i64 0, .int .i64 0, .int .i64 0, .int .i64 0, .bool false, .int .i64 0, .int .i64 0, .slice none 0 0, .slice none 0 0, .int .i64 0, .int .i64 0, .int .i64 0, .int .i64 0] w1 := (by refine Boxes.grown ?_ k1 ?_; (first | exact hB.out | exact hB.out.alloc _ | exact (hB.out.alloc _).alloc _); (try simp at hsz0 ⊢); omega); obtain ⟨q1, q2, q3, q4⟩ := KX.out _ hB'; (first | (have i2o := i2.out; have i2n : IntsAt w1 .i64 a2 xm xG := (by refine ints_grown ?_ k1 ?_; (first | exact i2o | exact ints_alloc i2o _ | exact ints_alloc (ints_alloc i2o _) _); (intro p e; have q := (g2.out p e).2; (try simp at q ⊢); omega)); clear i2 i2o; have i2 := Lib.hid i2n; clear i2n) | skip); (first | (have hP := Lib.hid (pend.grown (g := W.heap.size) (alloc_k0 (w := W.drew)) k1 (Nat.ne_of_lt (Nat.lt_succ_self _)))) | (have hP := Lib.hid (pend.grown (g := W.heap.size + 1) (alloc_at1 (w := W.drew)) k1 (Nat.succ_ne_self _))) | skip); have hsz := hB'.sz; clear hB k1 hsz0; have hB := Lib.hid hB'; clear hB'; replace i1 := Lib.hid i1; replace n1 := Lib.hid n1; replace g1 := Lib.hid g1)
      | (refine step_append_ints rfl _ _ rfl _ rfl ?_ xd xm xe xG rfl ?_ hd.out ?_ ?_; (first | exact alloc_at0 | exact alloc_at1 | exact alloc_k0 | exact hP.out); (refine H2.out _ ?_; (first | exact hB.out | exact hB.out.alloc _ | exact (hB.out.alloc _).alloc _)); omega; intro v2 w2 hap; obtain ⟨a2, c2, rfl, i2, n2, g2, l2, k2⟩ := hap; have hsz0 := hB.out.sz; have hB' : Boxes w #[.int .i64 x0, .int .i64 x1, .int .i64 x2, .int .i64 x3, .int .i64 x4, .bool x5, .int .i64 x6, .int .i64 x7, .slice xa xn xc, .slice xd xm xe, .int .i64 x10, .int .i64 x11, .int .i64 x12, .int .i64 x13] #[.int .i64 0, .int .i64 0, .int .i64 0, .int .i64 0, .int .i64 0, .bool false, .int .i64 0, .int .i64 0, .slice none 0 0, .slice none 0 0, .int .i64 0, .int .i64 0, .int .i64 0, .int .i64 0] w2 := (by refine Boxes.grown ?_ k2 ?_; (first | exact hB.out | exact hB.out.alloc _ | exact (hB.out.alloc _).alloc _); (try simp at hsz0 ⊢); omega); obtain ⟨q1, q2, q3, q4⟩ := KX.out _ hB'; (first | (have i1o := i1.out; have i1n : IntsAt w2 .i64 a1 xn xF := (by refine ints_grown ?_ k2 ?_; (first | exact i1o | exact ints_alloc i1o _ | exact ints_alloc (ints_alloc i1o _) _); (intro p e; have q := (g1.out p e).2; (try simp at q ⊢); omega)); clear i1 i1o; have i1 := Lib.hid i1n; clear i1n) | skip); (first | (have hP := Lib.hid (pend.grown (g := W.heap.size) (alloc_k0 (w := W.drew)) k2 (Nat.ne_of_lt (Nat.lt_succ_self _)))) | (have hP := Lib.hid (pend.grown (g := W.heap.size + 1) (alloc_at1 (w := W.drew)) k2 (Nat.succ_ne_self _))) | skip); have hsz := hB'.sz; clear hB k2 hsz0; have hB := Lib.hid hB'; clear hB'; replace i2 := Lib.hid i2; replace n2 := Lib.hid n2; replace g2 := Lib.hid g2))
  all_goals
    have b1 := hB.out.bX
    have z1 := hB.out.bZ
    have e1 := hB.out.bel
    clear KS KX H1 H2 q1 q2 q3 q4 c8 c9
    have b3 := heap_setCell_same _ (w.heap.size + 1 + 1) 9 _ _ (.slice a2 xm c2) (heap_setCell_same w2 (w.heap.size + 1 + 1) 8 _ _ (.slice a1 xn c1) b1)
    have r1 := (heap_setCell_other (w2.setCell ⟨w.heap.size + 1 + 1, 8, none⟩ (.slice a1 xn c1)) ⟨w.heap.size + 1 + 1, 9, none⟩ (w.heap.size + 1) (.slice a2 xm c2) (by show w.heap.size + 1 ≠ w.heap.size + 1 + 1; omega)).trans ((heap_setCell_other w2 ⟨w.heap.size + 1 + 1, 8, none⟩ (w.heap.size + 1) (.slice a1 xn c1) (by show w.heap.size + 1 ≠ w.heap.size + 1 + 1; omega)).trans z1)
    have f1 : ∀ p, a1 = some p → w.heap.size + 1 + 1 < p.block := fun p e => by have := (g1.out p e).1; omega
    have f2 : ∀ p, a2 = some p → w.heap.size + 1 + 1 < p.block := fun p e => by have := (g2.out p e).1; omega
    have f1' : ∀ p, a1 = some p → w.heap.size + 1 < p.block := fun p e => by have := f1 p e; omega
    have f2' : ∀ p, a2 = some p → w.heap.size + 1 < p.block := fun p e => by have := f2 p e; omega
    have j1 := ints_setcell (ints_setcell i1.out f1 8 (.slice a1 xn c1)) f1 9 (.slice a2 xm c2)
    have j2 := ints_setcell (ints_setcell i2.out f2 8 (.slice a1 xn c1)) f2 9 (.slice a2 xm c2)
    have bf := (e1.setCell (p := ⟨w.heap.size + 1 + 1, 8, none⟩) (by show w.heap.size ≤ w.heap.size + 1 + 1; omega) (.slice a1 xn c1)).setCell (p := ⟨w.heap.size + 1 + 1, 9, none⟩) (by show w.heap.size ≤ w.heap.size + 1 + 1; omega) (.slice a2 xm c2)
    generalize (w2.setCell ⟨w.heap.size + 1 + 1, 8, none⟩ (.slice a1 xn c1)).setCell ⟨w.heap.size + 1 + 1, 9, none⟩ (.slice a2 xm c2) = w5 at *
    have k1 := Lib.hid (ints_setrow j1 f1' #[.int .i64 x0, .int .i64 x1, .int .i64 x2, .int .i64 x3, .int .i64 x4, .bool x5, .int .i64 x6, .int .i64 x7, .slice a1 xn c1, .slice a2 xm c2, .int .i64 x10, .int .i64 x11, .int .i64 x12, .int .i64 x13])
    have k2 := Lib.hid (ints_setrow j2 f2' #[.int .i64 x0, .int .i64 x1, .int .i64 x2, .int .i64 x3, .int .i64 x4, .bool x5, .int .i64 x6, .int .i64 x7, .slice a1 xn c1, .slice a2 xm c2, .int .i64 x10, .int .i64 x11, .int .i64 x12, .int .i64 x13])
    have k3 : Below w.heap.size w (w5.setRow (w.heap.size + 1) #[.int .i64 x0, .int .i64 x1, .int .i64 x2, .int .i64 x3, .int .i64 x4, .bool x5, .int .i64 x6, .int .i64 x7, .slice a1 xn c1, .slice a2 xm c2, .int .i64 x10, .int .i64 x11, .int .i64 x12, .int .i64 x13]) := below_setRow bf _ _ (by omega)
    replace k3 := Lib.hid k3
    have b9 := setRow_h w5 (w.heap.size + 1) #[.int .i64 x0, .int .i64 x1, .int .i64 x2, .int .i64 x3, .int .i64 x4, .bool x5, .int .i64 x6, .int .i64 x7, .slice a1 xn c1, .slice a2 xm c2, .int .i64 x10, .int .i64 x11, .int .i64 x12, .int .i64 x13] _ _ _ r1
    replace b9 := Lib.hid b9
    clear b1 z1 e1 f1 f2 f1' f2' j1 j2 bf g1 g2 i1 i2 hB
    go_wp2_with (first
      | (refine wpList_load_row rfl 76 _ rfl (w.heap.size + 1 + 1) rfl 76 #[.int .i64 x0, .int .i64 x1, .int .i64 x2, .int .i64 x3, .int .i64 x4, .bool x5, .int .i64 x6, .int .i64 x7, .slice a1 xn c1, .slice a2 xm c2, .int .i64 x10, .int .i64 x11, .int .i64 x12, .int .i64 x13] (0, 0) _ b3 Try.underlying76 rfl info76 ?_)
      | (refine wpList_store_row rfl 76 _ _ rfl (w.heap.size + 1) #[.int .i64 x0, .int .i64 x1, .int .i64 x2, .int .i64 x3, .int .i64 x4, .bool x5, .int .i64 x6, .int .i64 x7, .slice a1 xn c1, .slice a2 xm c2, .int .i64 x10, .int .i64 x11, .int .i64 x12, .int .i64 x13] rfl rfl 76 #[.int .i64 0, .int .i64 0, .int .i64 0, .int .i64 0, .int .i64 0, .bool false, .int .i64 0, .int .i64 0, .slice none 0 0, .slice none 0 0, .int .i64 0, .int .i64 0, .int .i64 0, .int .i64 0] r1 info76 rfl (by simp [Value.oneCell']) ?_))
    refine bodyPost_ret (results_cell_row (p := 2) (ty := 76) rfl _ _ (w.heap.size + 1) 76 #[.int .i64 x0, .int .i64 x1, .int .i64 x2, .int .i64 x3, .int .i64 x4, .bool x5, .int .i64 x6, .int .i64 x7, .slice a1 xn c1, .slice a2 xm c2, .int .i64 x10, .int .i64 x11, .int .i64 x12, .int .i64 x13] (0, 0) _ (by rfl) b9.out Try.underlying76 rfl info76) rfl ⟨a1, c1, a2, c2, rfl, k1.out, k2.out, n1.out, n2.out, k3.out⟩

end Go.Proofs.Ytnkgbigjpihfeaa.Ma
