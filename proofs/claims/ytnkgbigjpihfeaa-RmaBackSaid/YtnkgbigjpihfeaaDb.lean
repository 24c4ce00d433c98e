/- command.write at every command, by its kind. -/
import Derived.Test.YtnkgbigjpihfeaaDa
import Derived.Test.YtnkgbigjpihfeaaIb
set_option linter.unusedVariables false
set_option linter.unusedSimpArgs false
namespace Go.Proofs.Ytnkgbigjpihfeaa.Kd
open Go.RowKit Go.Proofs.Ytnkgbigjpihfeaa.Lib
open Go.Proofs.Ytnkgbigjpihfeaa.Ma (alloc_keep alloc_at)

/-- The numbers are ints. -/
def bnd (xo xr xw xm xu xg xd xq : Int) : Prop := xo < 9223372036854775808 ∧ xr < 9223372036854775808 ∧ xw < 9223372036854775808 ∧ xm < 9223372036854775808 ∧ xu < 9223372036854775808 ∧ xg < 9223372036854775808 ∧ xd < 9223372036854775808 ∧ xq < 9223372036854775808

set_option maxRecDepth 100000 in
set_option maxHeartbeats 3200000 in
theorem write_2 (xo xr xw xm xu xg xd xq : Int) (xb xy : Bool) (xa : Option Addr) (xn xc : Nat) (xF : Nat → Int) (w : World) (hi : bnd xo xr xw xm xu xg xd xq) (hx : IntsAt w .i64 xa xn xF) (hn : xn ≤ 1000) (hXF : ∀ j, j < xn → xF j < 9223372036854775808) :
    Calls Try.prog 70 #[.agg #[.int .i64 2, .int .i64 xo, .slice xa xn xc, .int .i64 xr, .int .i64 xw, .bool xb, .int .i64 xm, .int .i64 xu, .int .i64 xg, .int .i64 xd, .int .i64 xq, .bool xy]] w fun e w' => wrPost (wrP 2 xo xr xw xm xu xg xd xq xb xy xn xF) w e w' := by
  have wrP_eq : wrP 2 xo xr xw xm xu xg xd xq xb xy xn xF = ([] ++ [((2 : Int), 1)] ++ [(xm, 2)]) := by simp [wrP]
  replace wrP_eq := Lib.hid wrP_eq
  obtain ⟨i1, i2, i3, i4, i5, i6, i7, i8⟩ := hi
  clear hx hXF
  have hb0 : Below w.heap.size w (w.alloc (.cells #[.int .i64 2, .int .i64 xo, .slice xa xn xc, .int .i64 xr, .int .i64 xw, .bool xb, .int .i64 xm, .int .i64 xu, .int .i64 xg, .int .i64 xd, .int .i64 xq, .bool xy] 55)) := (Below.refl _ _).alloc (Nat.le_refl _) _
  have h0 := newOut (w.alloc (.cells #[.int .i64 2, .int .i64 xo, .slice xa xn xc, .int .i64 xr, .int .i64 xw, .bool xb, .int .i64 xm, .int .i64 xu, .int .i64 xg, .int .i64 xd, .int .i64 xq, .bool xy] 55))
  rw [show (w.alloc (.cells #[.int .i64 2, .int .i64 xo, .slice xa xn xc, .int .i64 xr, .int .i64 xw, .bool xb, .int .i64 xm, .int .i64 xu, .int .i64 xg, .int .i64 xd, .int .i64 xq, .bool xy] 55)).heap.size = w.heap.size + 1 from by simp] at h0
  have hc0 : ((w.alloc (.cells #[.int .i64 2, .int .i64 xo, .slice xa xn xc, .int .i64 xr, .int .i64 xw, .bool xb, .int .i64 xm, .int .i64 xu, .int .i64 xg, .int .i64 xd, .int .i64 xq, .bool xy] 55)).alloc (.cells #[.slice none 0 0, .bool false] 39)).heap[w.heap.size]? = some (.cells #[.int .i64 2, .int .i64 xo, .slice xa xn xc, .int .i64 xr, .int .i64 xw, .bool xb, .int .i64 xm, .int .i64 xu, .int .i64 xg, .int .i64 xd, .int .i64 xq, .bool xy] 55 (0, 0)) := alloc_keep (heap_alloc_new _ _)
  have hb1 := hb0.alloc (by simp) (.cells #[.slice none 0 0, .bool false] 39)
  replace hb1 := Lib.hid hb1
  replace h0 := Lib.hid h0
  replace hc0 := Lib.hid hc0
  clear hb0
  go_enter Try.func70, Try.ntmps70
  go_wp2_with fail
  generalize (w.alloc (.cells #[.int .i64 2, .int .i64 xo, .slice xa xn xc, .int .i64 xr, .int .i64 xw, .bool xb, .int .i64 xm, .int .i64 xu, .int .i64 xg, .int .i64 xd, .int .i64 xq, .bool xy] 55)).alloc (.cells #[.slice none 0 0, .bool false] 39) = wx at *
  have KC : Hid (∀ w', Below (w.heap.size + 1) wx w' → w'.cell? ⟨w.heap.size, 0, none⟩ = some (.int .i64 2) ∧ w'.cell? ⟨w.heap.size, 1, none⟩ = some (.int .i64 xo) ∧ w'.cell? ⟨w.heap.size, 2, none⟩ = some (.slice xa xn xc) ∧ w'.cell? ⟨w.heap.size, 3, none⟩ = some (.int .i64 xr) ∧ w'.cell? ⟨w.heap.size, 4, none⟩ = some (.int .i64 xw) ∧ w'.cell? ⟨w.heap.size, 5, none⟩ = some (.bool xb) ∧ w'.cell? ⟨w.heap.size, 6, none⟩ = some (.int .i64 xm) ∧ w'.cell? ⟨w.heap.size, 7, none⟩ = some (.int .i64 xu) ∧ w'.cell? ⟨w.heap.size, 8, none⟩ = some (.int .i64 xg) ∧ w'.cell? ⟨w.heap.size, 9, none⟩ = some (.int .i64 xd) ∧ w'.cell? ⟨w.heap.size, 10, none⟩ = some (.int .i64 xq) ∧ w'.cell? ⟨w.heap.size, 11, none⟩ = some (.bool xy)) := Lib.hid (fun w' hq => by have := (hq.block w.heap.size (by omega)).trans hc0.out; simp [World.cell?, this])
  have hbx := Lib.hid (Below.refl (w.heap.size + 1) wx)
  obtain ⟨k0, k1, k2, k3, k4, k5, k6, k7, k8, k9, k10, k11⟩ := KC.out _ hbx.out
  have hO : Hid (OutS wx (w.heap.size + 1) (.slice none 0 0) []) := Lib.hid h0.out
  have hF : Hid (fewP []) := Lib.hid ⟨by simp, by simp⟩
  clear h0 hc0
  refine (u8_st hO.out 2 (by decide) hF.out).mono ?_
  rintro e w0 ⟨rfl, v0, q0, p0⟩
  replace hbx := Lib.hid (hbx.out.trans (p0.below hO.out))
  replace hF := Lib.hid (hF.out.snoc (x := 2) (k := 1) (show 1 ≤ 8 by decide) (by simp))
  clear k0 k1 k2 k3 k4 k5 k6 k7 k8 k9 k10 k11
  obtain ⟨k0, k1, k2, k3, k4, k5, k6, k7, k8, k9, k10, k11⟩ := KC.out _ hbx.out
  replace hO := Lib.hid q0
  clear p0 q0
  go_wp2_with fail
  refine (u16_st hO.out xm i4 hF.out).mono ?_
  rintro e w1 ⟨rfl, v1, q1, p1⟩
  replace hbx := Lib.hid (hbx.out.trans (p1.below hO.out))
  replace hF := Lib.hid (hF.out.snoc (x := xm) (k := 2) (show 2 ≤ 8 by decide) (by simp))
  clear k0 k1 k2 k3 k4 k5 k6 k7 k8 k9 k10 k11
  obtain ⟨k0, k1, k2, k3, k4, k5, k6, k7, k8, k9, k10, k11⟩ := KC.out _ hbx.out
  replace hO := Lib.hid q1
  clear p1 q1
  go_wp2_with fail
  clear k0 k1 k2 k3 k4 k5 k6 k7 k8 k9 k10 k11
  have hw : Below w.heap.size w _ := hb1.out.trans (hbx.out.mono (by omega))
  replace hw := Lib.hid hw
  refine (end_st hO.out hF.out).mono ?_
  rintro e w9 hE
  rcases hE with ⟨hg, a9, c9, rfl, g1, g2, g3, g4, g5, g6⟩ | ⟨hg, rfl, rfl⟩
  · have hs := hw.out.size
    replace g1 := Lib.hid g1
    replace g2 := Lib.hid g2
    replace g5 := Lib.hid g5
    replace g6 := Lib.hid g6
    replace hg := Lib.hid hg
    replace g3 := Lib.hid g3
    have hlen : Hid (∀ qs, qs = ([] ++ [((2 : Int), 1)] ++ [(xm, 2)]) → True) := Lib.hid (fun _ _ => trivial)
    generalize hC : catP ([] ++ [((2 : Int), 1)] ++ [(xm, 2)]) = C9 at *
    replace hC := Lib.hid hC
    go_wp2_with fail
    go_ret2
    refine Or.inl ⟨by rw [wrP_eq.out]; exact hg.out, a9, c9, ?_⟩
    rw [wrP_eq.out, hC.out]
    exact ⟨rfl, g1.out, g2.out, g3.out, g4, fun p e => Nat.le_trans hs (g5.out p e), hw.out.trans (g6.out.mono hs)⟩
  · replace hg := Lib.hid hg
    go_wp2_with fail
    go_ret2
    exact Or.inr ⟨by rw [wrP_eq.out]; exact hg.out, 2, by decide, rfl, hw.out⟩

set_option maxRecDepth 100000 in
set_option maxHeartbeats 3200000 in
theorem write_3 (xo xr xw xm xu xg xd xq : Int) (xb xy : Bool) (xa : Option Addr) (xn xc : Nat) (xF : Nat → Int) (w : World) (hi : bnd xo xr xw xm xu xg xd xq) (hx : IntsAt w .i64 xa xn xF) (hn : xn ≤ 1000) (hXF : ∀ j, j < xn → xF j < 9223372036854775808) :
    Calls Try.prog 70 #[.agg #[.int .i64 3, .int .i64 xo, .slice xa xn xc, .int .i64 xr, .int .i64 xw, .bool xb, .int .i64 xm, .int .i64 xu, .int .i64 xg, .int .i64 xd, .int .i64 xq, .bool xy]] w fun e w' => wrPost (wrP 3 xo xr xw xm xu xg xd xq xb xy xn xF) w e w' := by
  have wrP_eq : wrP 3 xo xr xw xm xu xg xd xq xb xy xn xF = ([] ++ [((3 : Int), 1)] ++ [(xm, 2)]) := by simp [wrP]
  replace wrP_eq := Lib.hid wrP_eq
  obtain ⟨i1, i2, i3, i4, i5, i6, i7, i8⟩ := hi
  clear hx hXF
  have hb0 : Below w.heap.size w (w.alloc (.cells #[.int .i64 3, .int .i64 xo, .slice xa xn xc, .int .i64 xr, .int .i64 xw, .bool xb, .int .i64 xm, .int .i64 xu, .int .i64 xg, .int .i64 xd, .int .i64 xq, .bool xy] 55)) := (Below.refl _ _).alloc (Nat.le_refl _) _
  have h0 := newOut (w.alloc (.cells #[.int .i64 3, .int .i64 xo, .slice xa xn xc, .int .i64 xr, .int .i64 xw, .bool xb, .int .i64 xm, .int .i64 xu, .int .i64 xg, .int .i64 xd, .int .i64 xq, .bool xy] 55))
  rw [show (w.alloc (.cells #[.int .i64 3, .int .i64 xo, .slice xa xn xc, .int .i64 xr, .int .i64 xw, .bool xb, .int .i64 xm, .int .i64 xu, .int .i64 xg, .int .i64 xd, .int .i64 xq, .bool xy] 55)).heap.size = w.heap.size + 1 from by simp] at h0
  have hc0 : ((w.alloc (.cells #[.int .i64 3, .int .i64 xo, .slice xa xn xc, .int .i64 xr, .int .i64 xw, .bool xb, .int .i64 xm, .int .i64 xu, .int .i64 xg, .int .i64 xd, .int .i64 xq, .bool xy] 55)).alloc (.cells #[.slice none 0 0, .bool false] 39)).heap[w.heap.size]? = some (.cells #[.int .i64 3, .int .i64 xo, .slice xa xn xc, .int .i64 xr, .int .i64 xw, .bool xb, .int .i64 xm, .int .i64 xu, .int .i64 xg, .int .i64 xd, .int .i64 xq, .bool xy] 55 (0, 0)) := alloc_keep (heap_alloc_new _ _)
  have hb1 := hb0.alloc (by simp) (.cells #[.slice none 0 0, .bool false] 39)
  replace hb1 := Lib.hid hb1
  replace h0 := Lib.hid h0
  replace hc0 := Lib.hid hc0
  clear hb0
  go_enter Try.func70, Try.ntmps70
  go_wp2_with fail
  generalize (w.alloc (.cells #[.int .i64 3, .int .i64 xo, .slice xa xn xc, .int .i64 xr, .int .i64 xw, .bool xb, .int .i64 xm, .int .i64 xu, .int .i64 xg, .int .i64 xd, .int .i64 xq, .bool xy] 55)).alloc (.cells #[.slice none 0 0, .bool false] 39) = wx at *
  have KC : Hid (∀ w', Below (w.heap.size + 1) wx w' → w'.cell? ⟨w.heap.size, 0, none⟩ = some (.int .i64 3) ∧ w'.cell? ⟨w.heap.size, 1, none⟩ = some (.int .i64 xo) ∧ w'.cell? ⟨w.heap.size, 2, none⟩ = some (.slice xa xn xc) ∧ w'.cell? ⟨w.heap.size, 3, none⟩ = some (.int .i64 xr) ∧ w'.cell? ⟨w.heap.size, 4, none⟩ = some (.int .i64 xw) ∧ w'.cell? ⟨w.heap.size, 5, none⟩ = some (.bool xb) ∧ w'.cell? ⟨w.heap.size, 6, none⟩ = some (.int .i64 xm) ∧ w'.cell? ⟨w.heap.size, 7, none⟩ = some (.int .i64 xu) ∧ w'.cell? ⟨w.heap.size, 8, none⟩ = some (.int .i64 xg) ∧ w'.cell? ⟨w.heap.size, 9, none⟩ = some (.int .i64 xd) ∧ w'.cell? ⟨w.heap.size, 10, none⟩ = some (.int .i64 xq) ∧ w'.cell? ⟨w.heap.size, 11, none⟩ = some (.bool xy)) := Lib.hid (fun w' hq => by have := (hq.block w.heap.size (by omega)).trans hc0.out; simp [World.cell?, this])
  have hbx := Lib.hid (Below.refl (w.heap.size + 1) wx)
  obtain ⟨k0, k1, k2, k3, k4, k5, k6, k7, k8, k9, k10, k11⟩ := KC.out _ hbx.out
  have hO : Hid (OutS wx (w.heap.size + 1) (.slice none 0 0) []) := Lib.hid h0.out
  have hF : Hid (fewP []) := Lib.hid ⟨by simp, by simp⟩
  clear h0 hc0
  refine (u8_st hO.out 3 (by decide) hF.out).mono ?_
  rintro e w0 ⟨rfl, v0, q0, p0⟩
  replace hbx := Lib.hid (hbx.out.trans (p0.below hO.out))
  replace hF := Lib.hid (hF.out.snoc (x := 3) (k := 1) (show 1 ≤ 8 by decide) (by simp))
  clear k0 k1 k2 k3 k4 k5 k6 k7 k8 k9 k10 k11
  obtain ⟨k0, k1, k2, k3, k4, k5, k6, k7, k8, k9, k10, k11⟩ := KC.out _ hbx.out
  replace hO := Lib.hid q0
  clear p0 q0
  go_wp2_with fail
  refine (u16_st hO.out xm i4 hF.out).mono ?_
  rintro e w1 ⟨rfl, v1, q1, p1⟩
  replace hbx := Lib.hid (hbx.out.trans (p1.below hO.out))
  replace hF := Lib.hid (hF.out.snoc (x := xm) (k := 2) (show 2 ≤ 8 by decide) (by simp))
  clear k0 k1 k2 k3 k4 k5 k6 k7 k8 k9 k10 k11
  obtain ⟨k0, k1, k2, k3, k4, k5, k6, k7, k8, k9, k10, k11⟩ := KC.out _ hbx.out
  replace hO := Lib.hid q1
  clear p1 q1
  go_wp2_with fail
  clear k0 k1 k2 k3 k4 k5 k6 k7 k8 k9 k10 k11
  have hw : Below w.heap.size w _ := hb1.out.trans (hbx.out.mono (by omega))
  replace hw := Lib.hid hw
  refine (end_st hO.out hF.out).mono ?_
  rintro e w9 hE
  rcases hE with ⟨hg, a9, c9, rfl, g1, g2, g3, g4, g5, g6⟩ | ⟨hg, rfl, rfl⟩
  · have hs := hw.out.size
    replace g1 := Lib.hid g1
    replace g2 := Lib.hid g2
    replace g5 := Lib.hid g5
    replace g6 := Lib.hid g6
    replace hg := Lib.hid hg
    replace g3 := Lib.hid g3
    have hlen : Hid (∀ qs, qs = ([] ++ [((3 : Int), 1)] ++ [(xm, 2)]) → True) := Lib.hid (fun _ _ => trivial)
    generalize hC : catP ([] ++ [((3 : Int), 1)] ++ [(xm, 2)]) = C9 at *
    replace hC := Lib.hid hC
    go_wp2_with fail
    go_ret2
    refine Or.inl ⟨by rw [wrP_eq.out]; exact hg.out, a9, c9, ?_⟩
    rw [wrP_eq.out, hC.out]
    exact ⟨rfl, g1.out, g2.out, g3.out, g4, fun p e => Nat.le_trans hs (g5.out p e), hw.out.trans (g6.out.mono hs)⟩
  · replace hg := Lib.hid hg
    go_wp2_with fail
    go_ret2
    exact Or.inr ⟨by rw [wrP_eq.out]; exact hg.out, 2, by decide, rfl, hw.out⟩

set_option maxRecDepth 100000 in
set_option maxHeartbeats 3200000 in
theorem write_4 (xo xr xw xm xu xg xd xq : Int) (xb xy : Bool) (xa : Option Addr) (xn xc : Nat) (xF : Nat → Int) (w : World) (hi : bnd xo xr xw xm xu xg xd xq) (hx : IntsAt w .i64 xa xn xF) (hn : xn ≤ 1000) (hXF : ∀ j, j < xn → xF j < 9223372036854775808) :
    Calls Try.prog 70 #[.agg #[.int .i64 4, .int .i64 xo, .slice xa xn xc, .int .i64 xr, .int .i64 xw, .bool xb, .int .i64 xm, .int .i64 xu, .int .i64 xg, .int .i64 xd, .int .i64 xq, .bool xy]] w fun e w' => wrPost (wrP 4 xo xr xw xm xu xg xd xq xb xy xn xF) w e w' := by
  have wrP_eq : wrP 4 xo xr xw xm xu xg xd xq xb xy xn xF = ([] ++ [((4 : Int), 1)] ++ [(xm, 2)]) := by simp [wrP]
  replace wrP_eq := Lib.hid wrP_eq
  obtain ⟨i1, i2, i3, i4, i5, i6, i7, i8⟩ := hi
  clear hx hXF
  have hb0 : Below w.heap.size w (w.alloc (.cells #[.int .i64 4, .int .i64 xo, .slice xa xn xc, .int .i64 xr, .int .i64 xw, .bool xb, .int .i64 xm, .int .i64 xu, .int .i64 xg, .int .i64 xd, .int .i64 xq, .bool xy] 55)) := (Below.refl _ _).alloc (Nat.le_refl _) _
  have h0 := newOut (w.alloc (.cells #[.int .i64 4, .int .i64 xo, .slice xa xn xc, .int .i64 xr, .int .i64 xw, .bool xb, .int .i64 xm, .int .i64 xu, .int .i64 xg, .int .i64 xd, .int .i64 xq, .bool xy] 55))
  rw [show (w.alloc (.cells #[.int .i64 4, .int .i64 xo, .slice xa xn xc, .int .i64 xr, .int .i64 xw, .bool xb, .int .i64 xm, .int .i64 xu, .int .i64 xg, .int .i64 xd, .int .i64 xq, .bool xy] 55)).heap.size = w.heap.size + 1 from by simp] at h0
  have hc0 : ((w.alloc (.cells #[.int .i64 4, .int .i64 xo, .slice xa xn xc, .int .i64 xr, .int .i64 xw, .bool xb, .int .i64 xm, .int .i64 xu, .int .i64 xg, .int .i64 xd, .int .i64 xq, .bool xy] 55)).alloc (.cells #[.slice none 0 0, .bool false] 39)).heap[w.heap.size]? = some (.cells #[.int .i64 4, .int .i64 xo, .slice xa xn xc, .int .i64 xr, .int .i64 xw, .bool xb, .int .i64 xm, .int .i64 xu, .int .i64 xg, .int .i64 xd, .int .i64 xq, .bool xy] 55 (0, 0)) := alloc_keep (heap_alloc_new _ _)
  have hb1 := hb0.alloc (by simp) (.cells #[.slice none 0 0, .bool false] 39)
  replace hb1 := Lib.hid hb1
  replace h0 := Lib.hid h0
  replace hc0 := Lib.hid hc0
  clear hb0
  go_enter Try.func70, Try.ntmps70
  go_wp2_with fail
  generalize (w.alloc (.cells #[.int .i64 4, .int .i64 xo, .slice xa xn xc, .int .i64 xr, .int .i64 xw, .bool xb, .int .i64 xm, .int .i64 xu, .int .i64 xg, .int .i64 xd, .int .i64 xq, .bool xy] 55)).alloc (.cells #[.slice none 0 0, .bool false] 39) = wx at *
  have KC : Hid (∀ w', Below (w.heap.size + 1) wx w' → w'.cell? ⟨w.heap.size, 0, none⟩ = some (.int .i64 4) ∧ w'.cell? ⟨w.heap.size, 1, none⟩ = some (.int .i64 xo) ∧ w'.cell? ⟨w.heap.size, 2, none⟩ = some (.slice xa xn xc) ∧ w'.cell? ⟨w.heap.size, 3, none⟩ = some (.int .i64 xr) ∧ w'.cell? ⟨w.heap.size, 4, none⟩ = some (.int .i64 xw) ∧ w'.cell? ⟨w.heap.size, 5, none⟩ = some (.bool xb) ∧ w'.cell? ⟨w.heap.size, 6, none⟩ = some (.int .i64 xm) ∧ w'.cell? ⟨w.heap.size, 7, none⟩ = some (.int .i64 xu) ∧ w'.cell? ⟨w.heap.size, 8, none⟩ = some (.int .i64 xg) ∧ w'.cell? ⟨w.heap.size, 9, none⟩ = some (.int .i64 xd) ∧ w'.cell? ⟨w.heap.size, 10, none⟩ = some (.int .i64 xq) ∧ w'.cell? ⟨w.heap.size, 11, none⟩ = some (.bool xy)) := Lib.hid (fun w' hq => by have := (hq.block w.heap.size (by omega)).trans hc0.out; simp [World.cell?, this])
  have hbx := Lib.hid (Below.refl (w.heap.size + 1) wx)
  obtain ⟨k0, k1, k2, k3, k4, k5, k6, k7, k8, k9, k10, k11⟩ := KC.out _ hbx.out
  have hO : Hid (OutS wx (w.heap.size + 1) (.slice none 0 0) []) := Lib.hid h0.out
  have hF : Hid (fewP []) := Lib.hid ⟨by simp, by simp⟩
  clear h0 hc0
  refine (u8_st hO.out 4 (by decide) hF.out).mono ?_
  rintro e w0 ⟨rfl, v0, q0, p0⟩
  replace hbx := Lib.hid (hbx.out.trans (p0.below hO.out))
  replace hF := Lib.hid (hF.out.snoc (x := 4) (k := 1) (show 1 ≤ 8 by decide) (by simp))
  clear k0 k1 k2 k3 k4 k5 k6 k7 k8 k9 k10 k11
  obtain ⟨k0, k1, k2, k3, k4, k5, k6, k7, k8, k9, k10, k11⟩ := KC.out _ hbx.out
  replace hO := Lib.hid q0
  clear p0 q0
  go_wp2_with fail
  refine (u16_st hO.out xm i4 hF.out).mono ?_
  rintro e w1 ⟨rfl, v1, q1, p1⟩
  replace hbx := Lib.hid (hbx.out.trans (p1.below hO.out))
  replace hF := Lib.hid (hF.out.snoc (x := xm) (k := 2) (show 2 ≤ 8 by decide) (by simp))
  clear k0 k1 k2 k3 k4 k5 k6 k7 k8 k9 k10 k11
  obtain ⟨k0, k1, k2, k3, k4, k5, k6, k7, k8, k9, k10, k11⟩ := KC.out _ hbx.out
  replace hO := Lib.hid q1
  clear p1 q1
  go_wp2_with fail
  clear k0 k1 k2 k3 k4 k5 k6 k7 k8 k9 k10 k11
  have hw : Below w.heap.size w _ := hb1.out.trans (hbx.out.mono (by omega))
  replace hw := Lib.hid hw
  refine (end_st hO.out hF.out).mono ?_
  rintro e w9 hE
  rcases hE with ⟨hg, a9, c9, rfl, g1, g2, g3, g4, g5, g6⟩ | ⟨hg, rfl, rfl⟩
  · have hs := hw.out.size
    replace g1 := Lib.hid g1
    replace g2 := Lib.hid g2
    replace g5 := Lib.hid g5
    replace g6 := Lib.hid g6
    replace hg := Lib.hid hg
    replace g3 := Lib.hid g3
    have hlen : Hid (∀ qs, qs = ([] ++ [((4 : Int), 1)] ++ [(xm, 2)]) → True) := Lib.hid (fun _ _ => trivial)
    generalize hC : catP ([] ++ [((4 : Int), 1)] ++ [(xm, 2)]) = C9 at *
    replace hC := Lib.hid hC
    go_wp2_with fail
    go_ret2
    refine Or.inl ⟨by rw [wrP_eq.out]; exact hg.out, a9, c9, ?_⟩
    rw [wrP_eq.out, hC.out]
    exact ⟨rfl, g1.out, g2.out, g3.out, g4, fun p e => Nat.le_trans hs (g5.out p e), hw.out.trans (g6.out.mono hs)⟩
  · replace hg := Lib.hid hg
    go_wp2_with fail
    go_ret2
    exact Or.inr ⟨by rw [wrP_eq.out]; exact hg.out, 2, by decide, rfl, hw.out⟩

set_option maxRecDepth 100000 in
set_option maxHeartbeats 3200000 in
theorem write_5 (xo xr xw xm xu xg xd xq : Int) (xb xy : Bool) (xa : Option Addr) (xn xc : Nat) (xF : Nat → Int) (w : World) (hi : bnd xo xr xw xm xu xg xd xq) (hx : IntsAt w .i64 xa xn xF) (hn : xn ≤ 1000) (hXF : ∀ j, j < xn → xF j < 9223372036854775808) :
    Calls Try.prog 70 #[.agg #[.int .i64 5, .int .i64 xo, .slice xa xn xc, .int .i64 xr, .int .i64 xw, .bool xb, .int .i64 xm, .int .i64 xu, .int .i64 xg, .int .i64 xd, .int .i64 xq, .bool xy]] w fun e w' => wrPost (wrP 5 xo xr xw xm xu xg xd xq xb xy xn xF) w e w' := by
  have wrP_eq : wrP 5 xo xr xw xm xu xg xd xq xb xy xn xF = ([] ++ [((5 : Int), 1)] ++ [(xm, 2)]) := by simp [wrP]
  replace wrP_eq := Lib.hid wrP_eq
  obtain ⟨i1, i2, i3, i4, i5, i6, i7, i8⟩ := hi
  clear hx hXF
  have hb0 : Below w.heap.size w (w.alloc (.cells #[.int .i64 5, .int .i64 xo, .slice xa xn xc, .int .i64 xr, .int .i64 xw, .bool xb, .int .i64 xm, .int .i64 xu, .int .i64 xg, .int .i64 xd, .int .i64 xq, .bool xy] 55)) := (Below.refl _ _).alloc (Nat.le_refl _) _
  have h0 := newOut (w.alloc (.cells #[.int .i64 5, .int .i64 xo, .slice xa xn xc, .int .i64 xr, .int .i64 xw, .bool xb, .int .i64 xm, .int .i64 xu, .int .i64 xg, .int .i64 xd, .int .i64 xq, .bool xy] 55))
  rw [show (w.alloc (.cells #[.int .i64 5, .int .i64 xo, .slice xa xn xc, .int .i64 xr, .int .i64 xw, .bool xb, .int .i64 xm, .int .i64 xu, .int .i64 xg, .int .i64 xd, .int .i64 xq, .bool xy] 55)).heap.size = w.heap.size + 1 from by simp] at h0
  have hc0 : ((w.alloc (.cells #[.int .i64 5, .int .i64 xo, .slice xa xn xc, .int .i64 xr, .int .i64 xw, .bool xb, .int .i64 xm, .int .i64 xu, .int .i64 xg, .int .i64 xd, .int .i64 xq, .bool xy] 55)).alloc (.cells #[.slice none 0 0, .bool false] 39)).heap[w.heap.size]? = some (.cells #[.int .i64 5, .int .i64 xo, .slice xa xn xc, .int .i64 xr, .int .i64 xw, .bool xb, .int .i64 xm, .int .i64 xu, .int .i64 xg, .int .i64 xd, .int .i64 xq, .bool xy] 55 (0, 0)) := alloc_keep (heap_alloc_new _ _)
  have hb1 := hb0.alloc (by simp) (.cells #[.slice none 0 0, .bool false] 39)
  replace hb1 := Lib.hid hb1
  replace h0 := Lib.hid h0
  replace hc0 := Lib.hid hc0
  clear hb0
  go_enter Try.func70, Try.ntmps70
  go_wp2_with fail
  generalize (w.alloc (.cells #[.int .i64 5, .int .i64 xo, .slice xa xn xc, .int .i64 xr, .int .i64 xw, .bool xb, .int .i64 xm, .int .i64 xu, .int .i64 xg, .int .i64 xd, .int .i64 xq, .bool xy] 55)).alloc (.cells #[.slice none 0 0, .bool false] 39) = wx at *
  have KC : Hid (∀ w', Below (w.heap.size + 1) wx w' → w'.cell? ⟨w.heap.size, 0, none⟩ = some (.int .i64 5) ∧ w'.cell? ⟨w.heap.size, 1, none⟩ = some (.int .i64 xo) ∧ w'.cell? ⟨w.heap.size, 2, none⟩ = some (.slice xa xn xc) ∧ w'.cell? ⟨w.heap.size, 3, none⟩ = some (.int .i64 xr) ∧ w'.cell? ⟨w.heap.size, 4, none⟩ = some (.int .i64 xw) ∧ w'.cell? ⟨w.heap.size, 5, none⟩ = some (.bool xb) ∧ w'.cell? ⟨w.heap.size, 6, none⟩ = some (.int .i64 xm) ∧ w'.cell? ⟨w.heap.size, 7, none⟩ = some (.int .i64 xu) ∧ w'.cell? ⟨w.heap.size, 8, none⟩ = some (.int .i64 xg) ∧ w'.cell? ⟨w.heap.size, 9, none⟩ = some (.int .i64 xd) ∧ w'.cell? ⟨w.heap.size, 10, none⟩ = some (.int .i64 xq) ∧ w'.cell? ⟨w.heap.size, 11, none⟩ = some (.bool xy)) := Lib.hid (fun w' hq => by have := (hq.block w.heap.size (by omega)).trans hc0.out; simp [World.cell?, this])
  have hbx := Lib.hid (Below.refl (w.heap.size + 1) wx)
  obtain ⟨k0, k1, k2, k3, k4, k5, k6, k7, k8, k9, k10, k11⟩ := KC.out _ hbx.out
  have hO : Hid (OutS wx (w.heap.size + 1) (.slice none 0 0) []) := Lib.hid h0.out
  have hF : Hid (fewP []) := Lib.hid ⟨by simp, by simp⟩
  clear h0 hc0
  refine (u8_st hO.out 5 (by decide) hF.out).mono ?_
  rintro e w0 ⟨rfl, v0, q0, p0⟩
  replace hbx := Lib.hid (hbx.out.trans (p0.below hO.out))
  replace hF := Lib.hid (hF.out.snoc (x := 5) (k := 1) (show 1 ≤ 8 by decide) (by simp))
  clear k0 k1 k2 k3 k4 k5 k6 k7 k8 k9 k10 k11
  obtain ⟨k0, k1, k2, k3, k4, k5, k6, k7, k8, k9, k10, k11⟩ := KC.out _ hbx.out
  replace hO := Lib.hid q0
  clear p0 q0
  go_wp2_with fail
  refine (u16_st hO.out xm i4 hF.out).mono ?_
  rintro e w1 ⟨rfl, v1, q1, p1⟩
  replace hbx := Lib.hid (hbx.out.trans (p1.below hO.out))
  replace hF := Lib.hid (hF.out.snoc (x := xm) (k := 2) (show 2 ≤ 8 by decide) (by simp))
  clear k0 k1 k2 k3 k4 k5 k6 k7 k8 k9 k10 k11
  obtain ⟨k0, k1, k2, k3, k4, k5, k6, k7, k8, k9, k10, k11⟩ := KC.out _ hbx.out
  replace hO := Lib.hid q1
  clear p1 q1
  go_wp2_with fail
  clear k0 k1 k2 k3 k4 k5 k6 k7 k8 k9 k10 k11
  have hw : Below w.heap.size w _ := hb1.out.trans (hbx.out.mono (by omega))
  replace hw := Lib.hid hw
  refine (end_st hO.out hF.out).mono ?_
  rintro e w9 hE
  rcases hE with ⟨hg, a9, c9, rfl, g1, g2, g3, g4, g5, g6⟩ | ⟨hg, rfl, rfl⟩
  · have hs := hw.out.size
    replace g1 := Lib.hid g1
    replace g2 := Lib.hid g2
    replace g5 := Lib.hid g5
    replace g6 := Lib.hid g6
    replace hg := Lib.hid hg
    replace g3 := Lib.hid g3
    have hlen : Hid (∀ qs, qs = ([] ++ [((5 : Int), 1)] ++ [(xm, 2)]) → True) := Lib.hid (fun _ _ => trivial)
    generalize hC : catP ([] ++ [((5 : Int), 1)] ++ [(xm, 2)]) = C9 at *
    replace hC := Lib.hid hC
    go_wp2_with fail
    go_ret2
    refine Or.inl ⟨by rw [wrP_eq.out]; exact hg.out, a9, c9, ?_⟩
    rw [wrP_eq.out, hC.out]
    exact ⟨rfl, g1.out, g2.out, g3.out, g4, fun p e => Nat.le_trans hs (g5.out p e), hw.out.trans (g6.out.mono hs)⟩
  · replace hg := Lib.hid hg
    go_wp2_with fail
    go_ret2
    exact Or.inr ⟨by rw [wrP_eq.out]; exact hg.out, 2, by decide, rfl, hw.out⟩

set_option maxRecDepth 100000 in
set_option maxHeartbeats 3200000 in
theorem write_6 (xo xr xw xm xu xg xd xq : Int) (xb xy : Bool) (xa : Option Addr) (xn xc : Nat) (xF : Nat → Int) (w : World) (hi : bnd xo xr xw xm xu xg xd xq) (hx : IntsAt w .i64 xa xn xF) (hn : xn ≤ 1000) (hXF : ∀ j, j < xn → xF j < 9223372036854775808) :
    Calls Try.prog 70 #[.agg #[.int .i64 6, .int .i64 xo, .slice xa xn xc, .int .i64 xr, .int .i64 xw, .bool xb, .int .i64 xm, .int .i64 xu, .int .i64 xg, .int .i64 xd, .int .i64 xq, .bool xy]] w fun e w' => wrPost (wrP 6 xo xr xw xm xu xg xd xq xb xy xn xF) w e w' := by
  have wrP_eq : wrP 6 xo xr xw xm xu xg xd xq xb xy xn xF = ([] ++ [((6 : Int), 1)] ++ [(xm, 2)] ++ [(xu, 1)] ++ [(xg, 1)]) := by simp [wrP]
  replace wrP_eq := Lib.hid wrP_eq
  obtain ⟨i1, i2, i3, i4, i5, i6, i7, i8⟩ := hi
  clear hx hXF
  have hb0 : Below w.heap.size w (w.alloc (.cells #[.int .i64 6, .int .i64 xo, .slice xa xn xc, .int .i64 xr, .int .i64 xw, .bool xb, .int .i64 xm, .int .i64 xu, .int .i64 xg, .int .i64 xd, .int .i64 xq, .bool xy] 55)) := (Below.refl _ _).alloc (Nat.le_refl _) _
  have h0 := newOut (w.alloc (.cells #[.int .i64 6, .int .i64 xo, .slice xa xn xc, .int .i64 xr, .int .i64 xw, .bool xb, .int .i64 xm, .int .i64 xu, .int .i64 xg, .int .i64 xd, .int .i64 xq, .bool xy] 55))
  rw [show (w.alloc (.cells #[.int .i64 6, .int .i64 xo, .slice xa xn xc, .int .i64 xr, .int .i64 xw, .bool xb, .int .i64 xm, .int .i64 xu, .int .i64 xg, .int .i64 xd, .int .i64 xq, .bool xy] 55)).heap.size = w.heap.size + 1 from by simp] at h0
  have hc0 : ((w.alloc (.cells #[.int .i64 6, .int .i64 xo, .slice xa xn xc, .int .i64 xr, .int .i64 xw, .bool xb, .int .i64 xm, .int .i64 xu, .int .i64 xg, .int .i64 xd, .int .i64 xq, .bool xy] 55)).alloc (.cells #[.slice none 0 0, .bool false] 39)).heap[w.heap.size]? = some (.cells #[.int .i64 6, .int .i64 xo, .slice xa xn xc, .int .i64 xr, .int .i64 xw, .bool xb, .int .i64 xm, .int .i64 xu, .int .i64 xg, .int .i64 xd, .int .i64 xq, .bool xy] 55 (0, 0)) := alloc_keep (heap_alloc_new _ _)
  have hb1 := hb0.alloc (by simp) (.cells #[.slice none 0 0, .bool false] 39)
  replace hb1 := Lib.hid hb1
  replace h0 := Lib.hid h0
  replace hc0 := Lib.hid hc0
  clear hb0
  go_enter Try.func70, Try.ntmps70
  go_wp2_with fail
  generalize (w.alloc (.cells #[.int .i64 6, .int .i64 xo, .slice xa xn xc, .int .i64 xr, .int .i64 xw, .bool xb, .int .i64 xm, .int .i64 xu, .int .i64 xg, .int .i64 xd, .int .i64 xq, .bool xy] 55)).alloc (.cells #[.slice none 0 0, .bool false] 39) = wx at *
  have KC : Hid (∀ w', Below (w.heap.size + 1) wx w' → w'.cell? ⟨w.heap.size, 0, none⟩ = some (.int .i64 6) ∧ w'.cell? ⟨w.heap.size, 1, none⟩ = some (.int .i64 xo) ∧ w'.cell? ⟨w.heap.size, 2, none⟩ = some (.slice xa xn xc) ∧ w'.cell? ⟨w.heap.size, 3, none⟩ = some (.int .i64 xr) ∧ w'.cell? ⟨w.heap.size, 4, none⟩ = some (.int .i64 xw) ∧ w'.cell? ⟨w.heap.size, 5, none⟩ = some (.bool xb) ∧ w'.cell? ⟨w.heap.size, 6, none⟩ = some (.int .i64 xm) ∧ w'.cell? ⟨w.heap.size, 7, none⟩ = some (.int .i64 xu) ∧ w'.cell? ⟨w.heap.size, 8, none⟩ = some (.int .i64 xg) ∧ w'.cell? ⟨w.heap.size, 9, none⟩ = some (.int .i64 xd) ∧ w'.cell? ⟨w.heap.size, 10, none⟩ = some (.int .i64 xq) ∧ w'.cell? ⟨w.heap.size, 11, none⟩ = some (.bool xy)) := Lib.hid (fun w' hq => by have := (hq.block w.heap.size (by omega)).trans hc0.out; simp [World.cell?, this])
  have hbx := Lib.hid (Below.refl (w.heap.size + 1) wx)
  obtain ⟨k0, k1, k2, k3, k4, k5, k6, k7, k8, k9, k10, k11⟩ := KC.out _ hbx.out
  have hO : Hid (OutS wx (w.heap.size + 1) (.slice none 0 0) []) := Lib.hid h0.out
  have hF : Hid (fewP []) := Lib.hid ⟨by simp, by simp⟩
  clear h0 hc0
  refine (u8_st hO.out 6 (by decide) hF.out).mono ?_
  rintro e w0 ⟨rfl, v0, q0, p0⟩
  replace hbx := Lib.hid (hbx.out.trans (p0.below hO.out))
  replace hF := Lib.hid (hF.out.snoc (x := 6) (k := 1) (show 1 ≤ 8 by decide) (by simp))
  clear k0 k1 k2 k3 k4 k5 k6 k7 k8 k9 k10 k11
  obtain ⟨k0, k1, k2, k3, k4, k5, k6, k7, k8, k9, k10, k11⟩ := KC.out _ hbx.out
  replace hO := Lib.hid q0
  clear p0 q0
  go_wp2_with fail
  refine (u16_st hO.out xm i4 hF.out).mono ?_
  rintro e w1 ⟨rfl, v1, q1, p1⟩
  replace hbx := Lib.hid (hbx.out.trans (p1.below hO.out))
  replace hF := Lib.hid (hF.out.snoc (x := xm) (k := 2) (show 2 ≤ 8 by decide) (by simp))
  clear k0 k1 k2 k3 k4 k5 k6 k7 k8 k9 k10 k11
  obtain ⟨k0, k1, k2, k3, k4, k5, k6, k7, k8, k9, k10, k11⟩ := KC.out _ hbx.out
  replace hO := Lib.hid q1
  clear p1 q1
  go_wp2_with fail
  refine (u8_st hO.out xu i5 hF.out).mono ?_
  rintro e w2 ⟨rfl, v2, q2, p2⟩
  replace hbx := Lib.hid (hbx.out.trans (p2.below hO.out))
  replace hF := Lib.hid (hF.out.snoc (x := xu) (k := 1) (show 1 ≤ 8 by decide) (by simp))
  clear k0 k1 k2 k3 k4 k5 k6 k7 k8 k9 k10 k11
  obtain ⟨k0, k1, k2, k3, k4, k5, k6, k7, k8, k9, k10, k11⟩ := KC.out _ hbx.out
  replace hO := Lib.hid q2
  clear p2 q2
  go_wp2_with fail
  refine (u8_st hO.out xg i6 hF.out).mono ?_
  rintro e w3 ⟨rfl, v3, q3, p3⟩
  replace hbx := Lib.hid (hbx.out.trans (p3.below hO.out))
  replace hF := Lib.hid (hF.out.snoc (x := xg) (k := 1) (show 1 ≤ 8 by decide) (by simp))
  clear k0 k1 k2 k3 k4 k5 k6 k7 k8 k9 k10 k11
  obtain ⟨k0, k1, k2, k3, k4, k5, k6, k7, k8, k9, k10, k11⟩ := KC.out _ hbx.out
  replace hO := Lib.hid q3
  clear p3 q3
  go_wp2_with fail
  clear k0 k1 k2 k3 k4 k5 k6 k7 k8 k9 k10 k11
  have hw : Below w.heap.size w _ := hb1.out.trans (hbx.out.mono (by omega))
  replace hw := Lib.hid hw
  refine (end_st hO.out hF.out).mono ?_
  rintro e w9 hE
  rcases hE with ⟨hg, a9, c9, rfl, g1, g2, g3, g4, g5, g6⟩ | ⟨hg, rfl, rfl⟩
  · have hs := hw.out.size
    replace g1 := Lib.hid g1
    replace g2 := Lib.hid g2
    replace g5 := Lib.hid g5
    replace g6 := Lib.hid g6
    replace hg := Lib.hid hg
    replace g3 := Lib.hid g3
    have hlen : Hid (∀ qs, qs = ([] ++ [((6 : Int), 1)] ++ [(xm, 2)] ++ [(xu, 1)] ++ [(xg, 1)]) → True) := Lib.hid (fun _ _ => trivial)
    generalize hC : catP ([] ++ [((6 : Int), 1)] ++ [(xm, 2)] ++ [(xu, 1)] ++ [(xg, 1)]) = C9 at *
    replace hC := Lib.hid hC
    go_wp2_with fail
    go_ret2
    refine Or.inl ⟨by rw [wrP_eq.out]; exact hg.out, a9, c9, ?_⟩
    rw [wrP_eq.out, hC.out]
    exact ⟨rfl, g1.out, g2.out, g3.out, g4, fun p e => Nat.le_trans hs (g5.out p e), hw.out.trans (g6.out.mono hs)⟩
  · replace hg := Lib.hid hg
    go_wp2_with fail
    go_ret2
    exact Or.inr ⟨by rw [wrP_eq.out]; exact hg.out, 2, by decide, rfl, hw.out⟩

set_option maxRecDepth 100000 in
set_option maxHeartbeats 3200000 in
theorem write_7 (xo xr xw xm xu xg xd xq : Int) (xb xy : Bool) (xa : Option Addr) (xn xc : Nat) (xF : Nat → Int) (w : World) (hi : bnd xo xr xw xm xu xg xd xq) (hx : IntsAt w .i64 xa xn xF) (hn : xn ≤ 1000) (hXF : ∀ j, j < xn → xF j < 9223372036854775808) :
    Calls Try.prog 70 #[.agg #[.int .i64 7, .int .i64 xo, .slice xa xn xc, .int .i64 xr, .int .i64 xw, .bool xb, .int .i64 xm, .int .i64 xu, .int .i64 xg, .int .i64 xd, .int .i64 xq, .bool xy]] w fun e w' => wrPost (wrP 7 xo xr xw xm xu xg xd xq xb xy xn xF) w e w' := by
  have wrP_eq : wrP 7 xo xr xw xm xu xg xd xq xb xy xn xF = ([] ++ [((7 : Int), 1)] ++ [(xd, 2)]) := by simp [wrP]
  replace wrP_eq := Lib.hid wrP_eq
  obtain ⟨i1, i2, i3, i4, i5, i6, i7, i8⟩ := hi
  clear hx hXF
  have hb0 : Below w.heap.size w (w.alloc (.cells #[.int .i64 7, .int .i64 xo, .slice xa xn xc, .int .i64 xr, .int .i64 xw, .bool xb, .int .i64 xm, .int .i64 xu, .int .i64 xg, .int .i64 xd, .int .i64 xq, .bool xy] 55)) := (Below.refl _ _).alloc (Nat.le_refl _) _
  have h0 := newOut (w.alloc (.cells #[.int .i64 7, .int .i64 xo, .slice xa xn xc, .int .i64 xr, .int .i64 xw, .bool xb, .int .i64 xm, .int .i64 xu, .int .i64 xg, .int .i64 xd, .int .i64 xq, .bool xy] 55))
  rw [show (w.alloc (.cells #[.int .i64 7, .int .i64 xo, .slice xa xn xc, .int .i64 xr, .int .i64 xw, .bool xb, .int .i64 xm, .int .i64 xu, .int .i64 xg, .int .i64 xd, .int .i64 xq, .bool xy] 55)).heap.size = w.heap.size + 1 from by simp] at h0
  have hc0 : ((w.alloc (.cells #[.int .i64 7, .int .i64 xo, .slice xa xn xc, .int .i64 xr, .int .i64 xw, .bool xb, .int .i64 xm, .int .i64 xu, .int .i64 xg, .int .i64 xd, .int .i64 xq, .bool xy] 55)).alloc (.cells #[.slice none 0 0, .bool false] 39)).heap[w.heap.size]? = some (.cells #[.int .i64 7, .int .i64 xo, .slice xa xn xc, .int .i64 xr, .int .i64 xw, .bool xb, .int .i64 xm, .int .i64 xu, .int .i64 xg, .int .i64 xd, .int .i64 xq, .bool xy] 55 (0, 0)) := alloc_keep (heap_alloc_new _ _)
  have hb1 := hb0.alloc (by simp) (.cells #[.slice none 0 0, .bool false] 39)
  replace hb1 := Lib.hid hb1
  replace h0 := Lib.hid h0
  replace hc0 := Lib.hid hc0
  clear hb0
  go_enter Try.func70, Try.ntmps70
  go_wp2_with fail
  generalize (w.alloc (.cells #[.int .i64 7, .int .i64 xo, .slice xa xn xc, .int .i64 xr, .int .i64 xw, .bool xb, .int .i64 xm, .int .i64 xu, .int .i64 xg, .int .i64 xd, .int .i64 xq, .bool xy] 55)).alloc (.cells #[.slice none 0 0, .bool false] 39) = wx at *
  have KC : Hid (∀ w', Below (w.heap.size + 1) wx w' → w'.cell? ⟨w.heap.size, 0, none⟩ = some (.int .i64 7) ∧ w'.cell? ⟨w.heap.size, 1, none⟩ = some (.int .i64 xo) ∧ w'.cell? ⟨w.heap.size, 2, none⟩ = some (.slice xa xn xc) ∧ w'.cell? ⟨w.heap.size, 3, none⟩ = some (.int .i64 xr) ∧ w'.cell? ⟨w.heap.size, 4, none⟩ = some (.int .i64 xw) ∧ w'.cell? ⟨w.heap.size, 5, none⟩ = some (.bool xb) ∧ w'.cell? ⟨w.heap.size, 6, none⟩ = some (.int .i64 xm) ∧ w'.cell? ⟨w.heap.size, 7, none⟩ = some (.int .i64 xu) ∧ w'.cell? ⟨w.heap.size, 8, none⟩ = some (.int .i64 xg) ∧ w'.cell? ⟨w.heap.size, 9, none⟩ = some (.int .i64 xd) ∧ w'.cell? ⟨w.heap.size, 10, none⟩ = some (.int .i64 xq) ∧ w'.cell? ⟨w.heap.size, 11, none⟩ = some (.bool xy)) := Lib.hid (fun w' hq => by have := (hq.block w.heap.size (by omega)).trans hc0.out; simp [World.cell?, this])
  have hbx := Lib.hid (Below.refl (w.heap.size + 1) wx)
  obtain ⟨k0, k1, k2, k3, k4, k5, k6, k7, k8, k9, k10, k11⟩ := KC.out _ hbx.out
  have hO : Hid (OutS wx (w.heap.size + 1) (.slice none 0 0) []) := Lib.hid h0.out
  have hF : Hid (fewP []) := Lib.hid ⟨by simp, by simp⟩
  clear h0 hc0
  refine (u8_st hO.out 7 (by decide) hF.out).mono ?_
  rintro e w0 ⟨rfl, v0, q0, p0⟩
  replace hbx := Lib.hid (hbx.out.trans (p0.below hO.out))
  replace hF := Lib.hid (hF.out.snoc (x := 7) (k := 1) (show 1 ≤ 8 by decide) (by simp))
  clear k0 k1 k2 k3 k4 k5 k6 k7 k8 k9 k10 k11
  obtain ⟨k0, k1, k2, k3, k4, k5, k6, k7, k8, k9, k10, k11⟩ := KC.out _ hbx.out
  replace hO := Lib.hid q0
  clear p0 q0
  go_wp2_with fail
  refine (u16_st hO.out xd i7 hF.out).mono ?_
  rintro e w1 ⟨rfl, v1, q1, p1⟩
  replace hbx := Lib.hid (hbx.out.trans (p1.below hO.out))
  replace hF := Lib.hid (hF.out.snoc (x := xd) (k := 2) (show 2 ≤ 8 by decide) (by simp))
  clear k0 k1 k2 k3 k4 k5 k6 k7 k8 k9 k10 k11
  obtain ⟨k0, k1, k2, k3, k4, k5, k6, k7, k8, k9, k10, k11⟩ := KC.out _ hbx.out
  replace hO := Lib.hid q1
  clear p1 q1
  go_wp2_with fail
  clear k0 k1 k2 k3 k4 k5 k6 k7 k8 k9 k10 k11
  have hw : Below w.heap.size w _ := hb1.out.trans (hbx.out.mono (by omega))
  replace hw := Lib.hid hw
  refine (end_st hO.out hF.out).mono ?_
  rintro e w9 hE
  rcases hE with ⟨hg, a9, c9, rfl, g1, g2, g3, g4, g5, g6⟩ | ⟨hg, rfl, rfl⟩
  · have hs := hw.out.size
    replace g1 := Lib.hid g1
    replace g2 := Lib.hid g2
    replace g5 := Lib.hid g5
    replace g6 := Lib.hid g6
    replace hg := Lib.hid hg
    replace g3 := Lib.hid g3
    have hlen : Hid (∀ qs, qs = ([] ++ [((7 : Int), 1)] ++ [(xd, 2)]) → True) := Lib.hid (fun _ _ => trivial)
    generalize hC : catP ([] ++ [((7 : Int), 1)] ++ [(xd, 2)]) = C9 at *
    replace hC := Lib.hid hC
    go_wp2_with fail
    go_ret2
    refine Or.inl ⟨by rw [wrP_eq.out]; exact hg.out, a9, c9, ?_⟩
    rw [wrP_eq.out, hC.out]
    exact ⟨rfl, g1.out, g2.out, g3.out, g4, fun p e => Nat.le_trans hs (g5.out p e), hw.out.trans (g6.out.mono hs)⟩
  · replace hg := Lib.hid hg
    go_wp2_with fail
    go_ret2
    exact Or.inr ⟨by rw [wrP_eq.out]; exact hg.out, 2, by decide, rfl, hw.out⟩

set_option maxRecDepth 100000 in
set_option maxHeartbeats 3200000 in
theorem write_8 (xo xr xw xm xu xg xd xq : Int) (xb xy : Bool) (xa : Option Addr) (xn xc : Nat) (xF : Nat → Int) (w : World) (hi : bnd xo xr xw xm xu xg xd xq) (hx : IntsAt w .i64 xa xn xF) (hn : xn ≤ 1000) (hXF : ∀ j, j < xn → xF j < 9223372036854775808) :
    Calls Try.prog 70 #[.agg #[.int .i64 8, .int .i64 xo, .slice xa xn xc, .int .i64 xr, .int .i64 xw, .bool xb, .int .i64 xm, .int .i64 xu, .int .i64 xg, .int .i64 xd, .int .i64 xq, .bool xy]] w fun e w' => wrPost (wrP 8 xo xr xw xm xu xg xd xq xb xy xn xF) w e w' := by
  have wrP_eq : wrP 8 xo xr xw xm xu xg xd xq xb xy xn xF = ([] ++ [((8 : Int), 1)] ++ [(xq, 4)] ++ [(fl xy, 1)]) := by simp [wrP]
  replace wrP_eq := Lib.hid wrP_eq
  obtain ⟨i1, i2, i3, i4, i5, i6, i7, i8⟩ := hi
  clear hx hXF
  have hb0 : Below w.heap.size w (w.alloc (.cells #[.int .i64 8, .int .i64 xo, .slice xa xn xc, .int .i64 xr, .int .i64 xw, .bool xb, .int .i64 xm, .int .i64 xu, .int .i64 xg, .int .i64 xd, .int .i64 xq, .bool xy] 55)) := (Below.refl _ _).alloc (Nat.le_refl _) _
  have h0 := newOut (w.alloc (.cells #[.int .i64 8, .int .i64 xo, .slice xa xn xc, .int .i64 xr, .int .i64 xw, .bool xb, .int .i64 xm, .int .i64 xu, .int .i64 xg, .int .i64 xd, .int .i64 xq, .bool xy] 55))
  rw [show (w.alloc (.cells #[.int .i64 8, .int .i64 xo, .slice xa xn xc, .int .i64 xr, .int .i64 xw, .bool xb, .int .i64 xm, .int .i64 xu, .int .i64 xg, .int .i64 xd, .int .i64 xq, .bool xy] 55)).heap.size = w.heap.size + 1 from by simp] at h0
  have hc0 : ((w.alloc (.cells #[.int .i64 8, .int .i64 xo, .slice xa xn xc, .int .i64 xr, .int .i64 xw, .bool xb, .int .i64 xm, .int .i64 xu, .int .i64 xg, .int .i64 xd, .int .i64 xq, .bool xy] 55)).alloc (.cells #[.slice none 0 0, .bool false] 39)).heap[w.heap.size]? = some (.cells #[.int .i64 8, .int .i64 xo, .slice xa xn xc, .int .i64 xr, .int .i64 xw, .bool xb, .int .i64 xm, .int .i64 xu, .int .i64 xg, .int .i64 xd, .int .i64 xq, .bool xy] 55 (0, 0)) := alloc_keep (heap_alloc_new _ _)
  have hb1 := hb0.alloc (by simp) (.cells #[.slice none 0 0, .bool false] 39)
  replace hb1 := Lib.hid hb1
  replace h0 := Lib.hid h0
  replace hc0 := Lib.hid hc0
  clear hb0
  go_enter Try.func70, Try.ntmps70
  go_wp2_with fail
  generalize (w.alloc (.cells #[.int .i64 8, .int .i64 xo, .slice xa xn xc, .int .i64 xr, .int .i64 xw, .bool xb, .int .i64 xm, .int .i64 xu, .int .i64 xg, .int .i64 xd, .int .i64 xq, .bool xy] 55)).alloc (.cells #[.slice none 0 0, .bool false] 39) = wx at *
  have KC : Hid (∀ w', Below (w.heap.size + 1) wx w' → w'.cell? ⟨w.heap.size, 0, none⟩ = some (.int .i64 8) ∧ w'.cell? ⟨w.heap.size, 1, none⟩ = some (.int .i64 xo) ∧ w'.cell? ⟨w.heap.size, 2, none⟩ = some (.slice xa xn xc) ∧ w'.cell? ⟨w.heap.size, 3, none⟩ = some (.int .i64 xr) ∧ w'.cell? ⟨w.heap.size, 4, none⟩ = some (.int .i64 xw) ∧ w'.cell? ⟨w.heap.size, 5, none⟩ = some (.bool xb) ∧ w'.cell? ⟨w.heap.size, 6, none⟩ = some (.int .i64 xm) ∧ w'.cell? ⟨w.heap.size, 7, none⟩ = some (.int .i64 xu) ∧ w'.cell? ⟨w.heap.size, 8, none⟩ = some (.int .i64 xg) ∧ w'.cell? ⟨w.heap.size, 9, none⟩ = some (.int .i64 xd) ∧ w'.cell? ⟨w.heap.size, 10, none⟩ = some (.int .i64 xq) ∧ w'.cell? ⟨w.heap.size, 11, none⟩ = some (.bool xy)) := Lib.hid (fun w' hq => by have := (hq.block w.heap.size (by omega)).trans hc0.out; simp [World.cell?, this])
  have hbx := Lib.hid (Below.refl (w.heap.size + 1) wx)
  obtain ⟨k0, k1, k2, k3, k4, k5, k6, k7, k8, k9, k10, k11⟩ := KC.out _ hbx.out
  have hO : Hid (OutS wx (w.heap.size + 1) (.slice none 0 0) []) := Lib.hid h0.out
  have hF : Hid (fewP []) := Lib.hid ⟨by simp, by simp⟩
  clear h0 hc0
  refine (u8_st hO.out 8 (by decide) hF.out).mono ?_
  rintro e w0 ⟨rfl, v0, q0, p0⟩
  replace hbx := Lib.hid (hbx.out.trans (p0.below hO.out))
  replace hF := Lib.hid (hF.out.snoc (x := 8) (k := 1) (show 1 ≤ 8 by decide) (by simp))
  clear k0 k1 k2 k3 k4 k5 k6 k7 k8 k9 k10 k11
  obtain ⟨k0, k1, k2, k3, k4, k5, k6, k7, k8, k9, k10, k11⟩ := KC.out _ hbx.out
  replace hO := Lib.hid q0
  clear p0 q0
  go_wp2_with fail
  refine (u32_st hO.out xq i8 hF.out).mono ?_
  rintro e w1 ⟨rfl, v1, q1, p1⟩
  replace hbx := Lib.hid (hbx.out.trans (p1.below hO.out))
  replace hF := Lib.hid (hF.out.snoc (x := xq) (k := 4) (show 4 ≤ 8 by decide) (by simp))
  clear k0 k1 k2 k3 k4 k5 k6 k7 k8 k9 k10 k11
  obtain ⟨k0, k1, k2, k3, k4, k5, k6, k7, k8, k9, k10, k11⟩ := KC.out _ hbx.out
  replace hO := Lib.hid q1
  clear p1 q1
  go_wp2_with fail
  refine (flag_st hO.out xy hF.out).mono ?_
  rintro e w2 ⟨rfl, v2, q2, p2⟩
  replace hbx := Lib.hid (hbx.out.trans (p2.below hO.out))
  replace hF := Lib.hid (hF.out.snoc (x := fl xy) (k := 1) (show 1 ≤ 8 by decide) (by simp))
  clear k0 k1 k2 k3 k4 k5 k6 k7 k8 k9 k10 k11
  obtain ⟨k0, k1, k2, k3, k4, k5, k6, k7, k8, k9, k10, k11⟩ := KC.out _ hbx.out
  replace hO := Lib.hid q2
  clear p2 q2
  go_wp2_with fail
  clear k0 k1 k2 k3 k4 k5 k6 k7 k8 k9 k10 k11
  have hw : Below w.heap.size w _ := hb1.out.trans (hbx.out.mono (by omega))
  replace hw := Lib.hid hw
  refine (end_st hO.out hF.out).mono ?_
  rintro e w9 hE
  rcases hE with ⟨hg, a9, c9, rfl, g1, g2, g3, g4, g5, g6⟩ | ⟨hg, rfl, rfl⟩
  · have hs := hw.out.size
    replace g1 := Lib.hid g1
    replace g2 := Lib.hid g2
    replace g5 := Lib.hid g5
    replace g6 := Lib.hid g6
    replace hg := Lib.hid hg
    replace g3 := Lib.hid g3
    have hlen : Hid (∀ qs, qs = ([] ++ [((8 : Int), 1)] ++ [(xq, 4)] ++ [(fl xy, 1)]) → True) := Lib.hid (fun _ _ => trivial)
    generalize hC : catP ([] ++ [((8 : Int), 1)] ++ [(xq, 4)] ++ [(fl xy, 1)]) = C9 at *
    replace hC := Lib.hid hC
    go_wp2_with fail
    go_ret2
    refine Or.inl ⟨by rw [wrP_eq.out]; exact hg.out, a9, c9, ?_⟩
    rw [wrP_eq.out, hC.out]
    exact ⟨rfl, g1.out, g2.out, g3.out, g4, fun p e => Nat.le_trans hs (g5.out p e), hw.out.trans (g6.out.mono hs)⟩
  · replace hg := Lib.hid hg
    go_wp2_with fail
    go_ret2
    exact Or.inr ⟨by rw [wrP_eq.out]; exact hg.out, 2, by decide, rfl, hw.out⟩

set_option maxRecDepth 100000 in
set_option maxHeartbeats 3200000 in
theorem write_1 (xo xr xw xm xu xg xd xq : Int) (xb xy : Bool) (xa : Option Addr) (xn xc : Nat) (xF : Nat → Int) (w : World) (hi : bnd xo xr xw xm xu xg xd xq) (hx : IntsAt w .i64 xa xn xF) (hn : xn ≤ 1000) (hXF : ∀ j, j < xn → xF j < 9223372036854775808) :
    Calls Try.prog 70 #[.agg #[.int .i64 1, .int .i64 xo, .slice xa xn xc, .int .i64 xr, .int .i64 xw, .bool xb, .int .i64 xm, .int .i64 xu, .int .i64 xg, .int .i64 xd, .int .i64 xq, .bool xy]] w fun e w' => wrPost (wrP 1 xo xr xw xm xu xg xd xq xb xy xn xF) w e w' := by
  have wrP_eq : wrP 1 xo xr xw xm xu xg xd xq xb xy xn xF = ([] ++ [((1 : Int), 1)] ++ [(xo, 1)] ++ [((xn : Int), 1)] ++ (List.range xn).map (fun j => (xF j, 1)) ++ [(xr, 1)] ++ [(xw, 2)] ++ [(fl xb, 1)]) := by simp [wrP]
  replace wrP_eq := Lib.hid wrP_eq
  obtain ⟨i1, i2, i3, i4, i5, i6, i7, i8⟩ := hi
  have HX : Hid (∀ w', Below w.heap.size w w' → IntsAt w' .i64 xa xn xF) := Lib.hid (fun w' hb => hx.below hb)
  replace hXF := Lib.hid hXF
  clear hx
  have hn63 : (xn : Int) < 9223372036854775808 := by omega
  have hb0 : Below w.heap.size w (w.alloc (.cells #[.int .i64 1, .int .i64 xo, .slice xa xn xc, .int .i64 xr, .int .i64 xw, .bool xb, .int .i64 xm, .int .i64 xu, .int .i64 xg, .int .i64 xd, .int .i64 xq, .bool xy] 55)) := (Below.refl _ _).alloc (Nat.le_refl _) _
  have h0 := newOut (w.alloc (.cells #[.int .i64 1, .int .i64 xo, .slice xa xn xc, .int .i64 xr, .int .i64 xw, .bool xb, .int .i64 xm, .int .i64 xu, .int .i64 xg, .int .i64 xd, .int .i64 xq, .bool xy] 55))
  rw [show (w.alloc (.cells #[.int .i64 1, .int .i64 xo, .slice xa xn xc, .int .i64 xr, .int .i64 xw, .bool xb, .int .i64 xm, .int .i64 xu, .int .i64 xg, .int .i64 xd, .int .i64 xq, .bool xy] 55)).heap.size = w.heap.size + 1 from by simp] at h0
  have hc0 : ((w.alloc (.cells #[.int .i64 1, .int .i64 xo, .slice xa xn xc, .int .i64 xr, .int .i64 xw, .bool xb, .int .i64 xm, .int .i64 xu, .int .i64 xg, .int .i64 xd, .int .i64 xq, .bool xy] 55)).alloc (.cells #[.slice none 0 0, .bool false] 39)).heap[w.heap.size]? = some (.cells #[.int .i64 1, .int .i64 xo, .slice xa xn xc, .int .i64 xr, .int .i64 xw, .bool xb, .int .i64 xm, .int .i64 xu, .int .i64 xg, .int .i64 xd, .int .i64 xq, .bool xy] 55 (0, 0)) := alloc_keep (heap_alloc_new _ _)
  have hb1 := hb0.alloc (by simp) (.cells #[.slice none 0 0, .bool false] 39)
  replace hb1 := Lib.hid hb1
  replace h0 := Lib.hid h0
  replace hc0 := Lib.hid hc0
  clear hb0
  go_enter Try.func70, Try.ntmps70
  go_wp2_with fail
  generalize (w.alloc (.cells #[.int .i64 1, .int .i64 xo, .slice xa xn xc, .int .i64 xr, .int .i64 xw, .bool xb, .int .i64 xm, .int .i64 xu, .int .i64 xg, .int .i64 xd, .int .i64 xq, .bool xy] 55)).alloc (.cells #[.slice none 0 0, .bool false] 39) = wx at *
  have KC : Hid (∀ w', Below (w.heap.size + 1) wx w' → w'.cell? ⟨w.heap.size, 0, none⟩ = some (.int .i64 1) ∧ w'.cell? ⟨w.heap.size, 1, none⟩ = some (.int .i64 xo) ∧ w'.cell? ⟨w.heap.size, 2, none⟩ = some (.slice xa xn xc) ∧ w'.cell? ⟨w.heap.size, 3, none⟩ = some (.int .i64 xr) ∧ w'.cell? ⟨w.heap.size, 4, none⟩ = some (.int .i64 xw) ∧ w'.cell? ⟨w.heap.size, 5, none⟩ = some (.bool xb) ∧ w'.cell? ⟨w.heap.size, 6, none⟩ = some (.int .i64 xm) ∧ w'.cell? ⟨w.heap.size, 7, none⟩ = some (.int .i64 xu) ∧ w'.cell? ⟨w.heap.size, 8, none⟩ = some (.int .i64 xg) ∧ w'.cell? ⟨w.heap.size, 9, none⟩ = some (.int .i64 xd) ∧ w'.cell? ⟨w.heap.size, 10, none⟩ = some (.int .i64 xq) ∧ w'.cell? ⟨w.heap.size, 11, none⟩ = some (.bool xy)) := Lib.hid (fun w' hq => by have := (hq.block w.heap.size (by omega)).trans hc0.out; simp [World.cell?, this])
  have hbx := Lib.hid (Below.refl (w.heap.size + 1) wx)
  obtain ⟨k0, k1, k2, k3, k4, k5, k6, k7, k8, k9, k10, k11⟩ := KC.out _ hbx.out
  have hO : Hid (OutS wx (w.heap.size + 1) (.slice none 0 0) []) := Lib.hid h0.out
  have hF : Hid (fewP []) := Lib.hid ⟨by simp, by simp⟩
  clear h0 hc0
  refine (u8_st hO.out 1 (by decide) hF.out).mono ?_
  rintro e w0 ⟨rfl, v0, q0, p0⟩
  replace hbx := Lib.hid (hbx.out.trans (p0.below hO.out))
  replace hF := Lib.hid (hF.out.snoc (x := 1) (k := 1) (show 1 ≤ 8 by decide) (by simp))
  clear k0 k1 k2 k3 k4 k5 k6 k7 k8 k9 k10 k11
  obtain ⟨k0, k1, k2, k3, k4, k5, k6, k7, k8, k9, k10, k11⟩ := KC.out _ hbx.out
  replace hO := Lib.hid q0
  clear p0 q0
  go_wp2_with fail
  refine (u8_st hO.out xo i1 hF.out).mono ?_
  rintro e w1 ⟨rfl, v1, q1, p1⟩
  replace hbx := Lib.hid (hbx.out.trans (p1.below hO.out))
  replace hF := Lib.hid (hF.out.snoc (x := xo) (k := 1) (show 1 ≤ 8 by decide) (by simp))
  clear k0 k1 k2 k3 k4 k5 k6 k7 k8 k9 k10 k11
  obtain ⟨k0, k1, k2, k3, k4, k5, k6, k7, k8, k9, k10, k11⟩ := KC.out _ hbx.out
  replace hO := Lib.hid q1
  clear p1 q1
  go_wp2_with fail
  refine (u8_st hO.out (xn : Int) hn63 hF.out).mono ?_
  rintro e w2 ⟨rfl, v2, q2, p2⟩
  replace hbx := Lib.hid (hbx.out.trans (p2.below hO.out))
  replace hF := Lib.hid (hF.out.snoc (x := (xn : Int)) (k := 1) (show 1 ≤ 8 by decide) (by simp))
  clear k0 k1 k2 k3 k4 k5 k6 k7 k8 k9 k10 k11
  obtain ⟨k0, k1, k2, k3, k4, k5, k6, k7, k8, k9, k10, k11⟩ := KC.out _ hbx.out
  replace hO := Lib.hid q2
  clear p2 q2
  go_wp2_with fail
  go_loopw [24] (fun i wr => ∃ (j : Nat) (v : Value), j ≤ xn ∧ i = .int .i64 j ∧ Hid (OutS wr (w.heap.size + 1) v (([] ++ [((1 : Int), 1)] ++ [(xo, 1)] ++ [((xn : Int), 1)] ++ (List.range j).map (fun j => (xF j, 1))))) ∧ Hid (fewP (([] ++ [((1 : Int), 1)] ++ [(xo, 1)] ++ [((xn : Int), 1)] ++ (List.range j).map (fun j => (xF j, 1))))) ∧ Hid (Below (w.heap.size + 1) wx wr)) (fun i _ => xn - (intOf i).toNat)
  case atStart => exact ⟨0, v2, Nat.zero_le _, rfl, Lib.hid (by simpa using hO.out), Lib.hid (by simpa using hF.out), hbx⟩
  case round =>
    clear k0 k1 k2 k3 k4 k5 k6 k7 k8 k9 k10 k11 hO hF hbx
    obtain ⟨j, v, hj, rfl, hO, hF, hbx⟩ := hrel
    obtain ⟨k0, k1, k2, k3, k4, k5, k6, k7, k8, k9, k10, k11⟩ := KC.out _ hbx.out
    by_cases hlt : j < xn
    · have hlt' : (j : Int) < xn := by omega
      obtain ⟨b, o, rfl, hbb, hc⟩ := (HX.out _ (hb1.out.trans (hbx.out.mono (by omega)))).2 (by omega)
      have cj := hc j hlt
      have hj63 := hXF.out j hlt
      clear hc
      generalize hxj : xF j = xj at *
      replace hxj := Lib.hid hxj
      go_wp2_with fail
      refine (u8_st hO.out xj hj63 hF.out).mono ?_
      rintro e w5 ⟨rfl, v5, q5, p5⟩
      replace hbx := Lib.hid (hbx.out.trans (p5.below hO.out))
      replace hF := Lib.hid (hF.out.snoc (x := xj) (k := 1) (show 1 ≤ 8 by decide) (by simp; omega))
      have hE : ([] ++ [((1 : Int), 1)] ++ [(xo, 1)] ++ [((xn : Int), 1)] ++ (List.range j).map (fun j => (xF j, 1))) ++ [(xj, 1)] = ([] ++ [((1 : Int), 1)] ++ [(xo, 1)] ++ [((xn : Int), 1)] ++ (List.range (j + 1)).map (fun j => (xF j, 1))) := by rw [← hxj.out, List.range_succ]; simp
      rw [hE] at hF q5
      replace q5 := Lib.hid q5
      clear k0 k1 k2 k3 k4 k5 k6 k7 k8 k9 k10 k11 hE p5 hO
      go_wp2_with fail
      exact ⟨⟨j + 1, v5, by omega, by go_num, q5, hF, hbx⟩, by simp [intOf]; omega⟩
    · obtain rfl : j = xn := by omega
      have hlt' : ¬ (j : Int) < j := by omega
      go_wp2_with fail
      refine (u8_st hO.out xr i2 hF.out).mono ?_
      rintro e w5 ⟨rfl, v5, q5, p5⟩
      replace hbx := Lib.hid (hbx.out.trans (p5.below hO.out))
      replace hF := Lib.hid (hF.out.snoc (x := xr) (k := 1) (show 1 ≤ 8 by decide) (by simp; omega))
      clear k0 k1 k2 k3 k4 k5 k6 k7 k8 k9 k10 k11
      obtain ⟨k0, k1, k2, k3, k4, k5, k6, k7, k8, k9, k10, k11⟩ := KC.out _ hbx.out
      replace hO := Lib.hid q5
      clear p5 q5
      go_wp2_with fail
      refine (u16_st hO.out xw i3 hF.out).mono ?_
      rintro e w6 ⟨rfl, v6, q6, p6⟩
      replace hbx := Lib.hid (hbx.out.trans (p6.below hO.out))
      replace hF := Lib.hid (hF.out.snoc (x := xw) (k := 2) (show 2 ≤ 8 by decide) (by simp; omega))
      clear k0 k1 k2 k3 k4 k5 k6 k7 k8 k9 k10 k11
      obtain ⟨k0, k1, k2, k3, k4, k5, k6, k7, k8, k9, k10, k11⟩ := KC.out _ hbx.out
      replace hO := Lib.hid q6
      clear p6 q6
      go_wp2_with fail
      refine (flag_st hO.out xb hF.out).mono ?_
      rintro e w7 ⟨rfl, v7, q7, p7⟩
      replace hbx := Lib.hid (hbx.out.trans (p7.below hO.out))
      replace hF := Lib.hid (hF.out.snoc (x := fl xb) (k := 1) (show 1 ≤ 8 by decide) (by simp; omega))
      clear k0 k1 k2 k3 k4 k5 k6 k7 k8 k9 k10 k11
      obtain ⟨k0, k1, k2, k3, k4, k5, k6, k7, k8, k9, k10, k11⟩ := KC.out _ hbx.out
      replace hO := Lib.hid q7
      clear p7 q7
      go_wp2_with fail
      clear k0 k1 k2 k3 k4 k5 k6 k7 k8 k9 k10 k11
      have hw : Below w.heap.size w _ := hb1.out.trans (hbx.out.mono (by omega))
      replace hw := Lib.hid hw
      refine (end_st hO.out hF.out).mono ?_
      rintro e w9 hE
      rcases hE with ⟨hg, a9, c9, rfl, g1, g2, g3, g4, g5, g6⟩ | ⟨hg, rfl, rfl⟩
      · have hs := hw.out.size
        replace g1 := Lib.hid g1
        replace g2 := Lib.hid g2
        replace g5 := Lib.hid g5
        replace g6 := Lib.hid g6
        replace hg := Lib.hid hg
        replace g3 := Lib.hid g3
        have hlen : Hid (∀ qs, qs = ([] ++ [((1 : Int), 1)] ++ [(xo, 1)] ++ [((j : Int), 1)] ++ (List.range j).map (fun j => (xF j, 1)) ++ [(xr, 1)] ++ [(xw, 2)] ++ [(fl xb, 1)]) → True) := Lib.hid (fun _ _ => trivial)
        generalize hC : catP ([] ++ [((1 : Int), 1)] ++ [(xo, 1)] ++ [((j : Int), 1)] ++ (List.range j).map (fun j => (xF j, 1)) ++ [(xr, 1)] ++ [(xw, 2)] ++ [(fl xb, 1)]) = C9 at *
        replace hC := Lib.hid hC
        go_wp2_with fail
        go_ret2
        refine Or.inl ⟨by rw [wrP_eq.out]; exact hg.out, a9, c9, ?_⟩
        rw [wrP_eq.out, hC.out]
        exact ⟨rfl, g1.out, g2.out, g3.out, g4, fun p e => Nat.le_trans hs (g5.out p e), hw.out.trans (g6.out.mono hs)⟩
      · replace hg := Lib.hid hg
        go_wp2_with fail
        go_ret2
        exact Or.inr ⟨by rw [wrP_eq.out]; exact hg.out, 2, by decide, rfl, hw.out⟩

set_option maxRecDepth 100000 in
set_option maxHeartbeats 3200000 in
theorem write_0 (xk xo xr xw xm xu xg xd xq : Int) (xb xy : Bool) (xa : Option Addr) (xn xc : Nat) (xF : Nat → Int) (w : World) (hk : xk < 9223372036854775808) (h1 : (xk == 1) = false) (h2 : (xk == 2) = false) (h3 : (xk == 3) = false) (h4 : (xk == 4) = false) (h5 : (xk == 5) = false) (h6 : (xk == 6) = false) (h7 : (xk == 7) = false) (h8 : (xk == 8) = false) :
    Calls Try.prog 70 #[.agg #[.int .i64 xk, .int .i64 xo, .slice xa xn xc, .int .i64 xr, .int .i64 xw, .bool xb, .int .i64 xm, .int .i64 xu, .int .i64 xg, .int .i64 xd, .int .i64 xq, .bool xy]] w fun e w' => wrPost (wrP xk xo xr xw xm xu xg xd xq xb xy xn xF) w e w' := by
  have wrP_eq : wrP xk xo xr xw xm xu xg xd xq xb xy xn xF = [(-1, 1)] := by
    simp only [beq_eq_false_iff_ne, ne_eq] at *
    simp [wrP, *]
  replace wrP_eq := Lib.hid wrP_eq
  have hb0 : Below w.heap.size w (w.alloc (.cells #[.int .i64 xk, .int .i64 xo, .slice xa xn xc, .int .i64 xr, .int .i64 xw, .bool xb, .int .i64 xm, .int .i64 xu, .int .i64 xg, .int .i64 xd, .int .i64 xq, .bool xy] 55)) := (Below.refl _ _).alloc (Nat.le_refl _) _
  have h0 := newOut (w.alloc (.cells #[.int .i64 xk, .int .i64 xo, .slice xa xn xc, .int .i64 xr, .int .i64 xw, .bool xb, .int .i64 xm, .int .i64 xu, .int .i64 xg, .int .i64 xd, .int .i64 xq, .bool xy] 55))
  rw [show (w.alloc (.cells #[.int .i64 xk, .int .i64 xo, .slice xa xn xc, .int .i64 xr, .int .i64 xw, .bool xb, .int .i64 xm, .int .i64 xu, .int .i64 xg, .int .i64 xd, .int .i64 xq, .bool xy] 55)).heap.size = w.heap.size + 1 from by simp] at h0
  have hc0 : ((w.alloc (.cells #[.int .i64 xk, .int .i64 xo, .slice xa xn xc, .int .i64 xr, .int .i64 xw, .bool xb, .int .i64 xm, .int .i64 xu, .int .i64 xg, .int .i64 xd, .int .i64 xq, .bool xy] 55)).alloc (.cells #[.slice none 0 0, .bool false] 39)).heap[w.heap.size]? = some (.cells #[.int .i64 xk, .int .i64 xo, .slice xa xn xc, .int .i64 xr, .int .i64 xw, .bool xb, .int .i64 xm, .int .i64 xu, .int .i64 xg, .int .i64 xd, .int .i64 xq, .bool xy] 55 (0, 0)) := alloc_keep (heap_alloc_new _ _)
  have hb1 := hb0.alloc (by simp) (.cells #[.slice none 0 0, .bool false] 39)
  replace hb1 := Lib.hid hb1
  replace h0 := Lib.hid h0
  replace hc0 := Lib.hid hc0
  clear hb0
  go_enter Try.func70, Try.ntmps70
  go_wp2_with fail
  generalize (w.alloc (.cells #[.int .i64 xk, .int .i64 xo, .slice xa xn xc, .int .i64 xr, .int .i64 xw, .bool xb, .int .i64 xm, .int .i64 xu, .int .i64 xg, .int .i64 xd, .int .i64 xq, .bool xy] 55)).alloc (.cells #[.slice none 0 0, .bool false] 39) = wx at *
  have KC : Hid (∀ w', Below (w.heap.size + 1) wx w' → w'.cell? ⟨w.heap.size, 0, none⟩ = some (.int .i64 xk) ∧ w'.cell? ⟨w.heap.size, 1, none⟩ = some (.int .i64 xo) ∧ w'.cell? ⟨w.heap.size, 2, none⟩ = some (.slice xa xn xc) ∧ w'.cell? ⟨w.heap.size, 3, none⟩ = some (.int .i64 xr) ∧ w'.cell? ⟨w.heap.size, 4, none⟩ = some (.int .i64 xw) ∧ w'.cell? ⟨w.heap.size, 5, none⟩ = some (.bool xb) ∧ w'.cell? ⟨w.heap.size, 6, none⟩ = some (.int .i64 xm) ∧ w'.cell? ⟨w.heap.size, 7, none⟩ = some (.int .i64 xu) ∧ w'.cell? ⟨w.heap.size, 8, none⟩ = some (.int .i64 xg) ∧ w'.cell? ⟨w.heap.size, 9, none⟩ = some (.int .i64 xd) ∧ w'.cell? ⟨w.heap.size, 10, none⟩ = some (.int .i64 xq) ∧ w'.cell? ⟨w.heap.size, 11, none⟩ = some (.bool xy)) := Lib.hid (fun w' hq => by have := (hq.block w.heap.size (by omega)).trans hc0.out; simp [World.cell?, this])
  have hbx := Lib.hid (Below.refl (w.heap.size + 1) wx)
  obtain ⟨k0, k1, k2, k3, k4, k5, k6, k7, k8, k9, k10, k11⟩ := KC.out _ hbx.out
  have hO : Hid (OutS wx (w.heap.size + 1) (.slice none 0 0) []) := Lib.hid h0.out
  have hF : Hid (fewP []) := Lib.hid ⟨by simp, by simp⟩
  clear h0 hc0
  refine (u8_st hO.out xk hk hF.out).mono ?_
  rintro e w0 ⟨rfl, v0, q0, p0⟩
  replace hbx := Lib.hid (hbx.out.trans (p0.below hO.out))
  replace hF := Lib.hid (hF.out.snoc (x := xk) (k := 1) (show 1 ≤ 8 by decide) (by simp))
  clear k0 k1 k2 k3 k4 k5 k6 k7 k8 k9 k10 k11
  obtain ⟨k0, k1, k2, k3, k4, k5, k6, k7, k8, k9, k10, k11⟩ := KC.out _ hbx.out
  replace hO := Lib.hid q0
  clear p0 q0
  go_wp2_with fail
  clear k0 k1 k2 k3 k4 k5 k6 k7 k8 k9 k10 k11
  have hw : Below w.heap.size w w0 := hb1.out.trans (hbx.out.mono (by omega))
  go_ret2
  exact Or.inr ⟨by rw [wrP_eq.out]; decide, 1, by decide, rfl, hw⟩

/-- write at every command. -/
theorem write_any (xk xo xr xw xm xu xg xd xq : Int) (xb xy : Bool) (xa : Option Addr) (xn xc : Nat) (xF : Nat → Int) (w : World) (hk : xk < 9223372036854775808) (hi : bnd xo xr xw xm xu xg xd xq) (hx : IntsAt w .i64 xa xn xF) (hn : xn ≤ 1000) (hXF : ∀ j, j < xn → xF j < 9223372036854775808) :
    Calls Try.prog 70 #[.agg #[.int .i64 xk, .int .i64 xo, .slice xa xn xc, .int .i64 xr, .int .i64 xw, .bool xb, .int .i64 xm, .int .i64 xu, .int .i64 xg, .int .i64 xd, .int .i64 xq, .bool xy]] w fun e w' => wrPost (wrP xk xo xr xw xm xu xg xd xq xb xy xn xF) w e w' := by
  cases h1 : (xk == 1)
  rotate_left
  · obtain rfl : xk = 1 := by simpa using h1
    exact write_1 xo xr xw xm xu xg xd xq xb xy xa xn xc xF w hi hx hn hXF
  cases h2 : (xk == 2)
  rotate_left
  · obtain rfl : xk = 2 := by simpa using h2
    exact write_2 xo xr xw xm xu xg xd xq xb xy xa xn xc xF w hi hx hn hXF
  cases h3 : (xk == 3)
  rotate_left
  · obtain rfl : xk = 3 := by simpa using h3
    exact write_3 xo xr xw xm xu xg xd xq xb xy xa xn xc xF w hi hx hn hXF
  cases h4 : (xk == 4)
  rotate_left
  · obtain rfl : xk = 4 := by simpa using h4
    exact write_4 xo xr xw xm xu xg xd xq xb xy xa xn xc xF w hi hx hn hXF
  cases h5 : (xk == 5)
  rotate_left
  · obtain rfl : xk = 5 := by simpa using h5
    exact write_5 xo xr xw xm xu xg xd xq xb xy xa xn xc xF w hi hx hn hXF
  cases h6 : (xk == 6)
  rotate_left
  · obtain rfl : xk = 6 := by simpa using h6
    exact write_6 xo xr xw xm xu xg xd xq xb xy xa xn xc xF w hi hx hn hXF
  cases h7 : (xk == 7)
  rotate_left
  · obtain rfl : xk = 7 := by simpa using h7
    exact write_7 xo xr xw xm xu xg xd xq xb xy xa xn xc xF w hi hx hn hXF
  cases h8 : (xk == 8)
  rotate_left
  · obtain rfl : xk = 8 := by simpa using h8
    exact write_8 xo xr xw xm xu xg xd xq xb xy xa xn xc xF w hi hx hn hXF
  exact write_0 xk xo xr xw xm xu xg xd xq xb xy xa xn xc xF w hk h1 h2 h3 h4 h5 h6 h7 h8

end Go.Proofs.Ytnkgbigjpihfeaa.Kd
