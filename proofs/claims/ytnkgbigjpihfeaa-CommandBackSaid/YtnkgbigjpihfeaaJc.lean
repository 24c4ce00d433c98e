/- Commands are told to be alike just if they are: the walk of CommandEqual. -/
import Derived.Test.YtnkgbigjpihfeaaJa
import Derived.Test.YtnkgbigjpihfeaaCb
set_option linter.unusedVariables false
set_option linter.unusedSimpArgs false
namespace Go.Proofs.Ytnkgbigjpihfeaa.Ma
open Go.RowKit Go.Proofs.Ytnkgbigjpihfeaa.Lib

theorem eqC_self (xk xo xr xw xm xu xg xd xq : Int) (xb xy : Bool) (xa : Option Addr) (xn xc : Nat) (xF : Nat → Int) (a1 a2 : Option Addr) (c1 c2 : Nat) : eqC xk xo xr xw xm xu xg xd xq xb xy a1 xn c1 xF xk xo xr xw xm xu xg xd xq xb xy a2 xn c2 xF = true := by simp [eqC, sameB_self]

set_option maxRecDepth 100000 in
set_option maxHeartbeats 3200000 in
theorem cEqual_many (xk xo xr xw xm xu xg xd xq : Int) (xb xy : Bool) (xa : Option Addr) (xn xc : Nat) (xF : Nat → Int) (yk yo yr yw ym yu yg yd yq : Int) (yb yy : Bool) (ya : Option Addr) (yn yc : Nat) (yF : Nat → Int) (w : World) (hx : IntsAt w .i64 xa xn xF) (hy : IntsAt w .i64 ya yn yF) (hxa : xa = none → xn = 0 ∧ xc = 0) (hya : ya = none → yn = 0 ∧ yc = 0) (hf : 400 < xn) : Calls Try.prog 8 #[.agg #[.int .i64 xk, .int .i64 xo, .slice xa xn xc, .int .i64 xr, .int .i64 xw, .bool xb, .int .i64 xm, .int .i64 xu, .int .i64 xg, .int .i64 xd, .int .i64 xq, .bool xy], .agg #[.int .i64 yk, .int .i64 yo, .slice ya yn yc, .int .i64 yr, .int .i64 yw, .bool yb, .int .i64 ym, .int .i64 yu, .int .i64 yg, .int .i64 yd, .int .i64 yq, .bool yy]] w fun e w' => e = .returned (.bool true) ∧ Below w.heap.size w w' := by
  have HN : Hid (∀ w', Calls Try.prog 36 #[] w' fun e w'' => e = .returned (.bool true) ∧ Below w'.heap.size w' w'') := Lib.hid Kd.awake15
  have hX : ((w.alloc (.cells #[.int .i64 xk, .int .i64 xo, .slice xa xn xc, .int .i64 xr, .int .i64 xw, .bool xb, .int .i64 xm, .int .i64 xu, .int .i64 xg, .int .i64 xd, .int .i64 xq, .bool xy] 53)).alloc (.cells #[.int .i64 yk, .int .i64 yo, .slice ya yn yc, .int .i64 yr, .int .i64 yw, .bool yb, .int .i64 ym, .int .i64 yu, .int .i64 yg, .int .i64 yd, .int .i64 yq, .bool yy] 53)).heap[w.heap.size]? = some (.cells #[.int .i64 xk, .int .i64 xo, .slice xa xn xc, .int .i64 xr, .int .i64 xw, .bool xb, .int .i64 xm, .int .i64 xu, .int .i64 xg, .int .i64 xd, .int .i64 xq, .bool xy] 53 (0, 0)) := alloc_keep (heap_alloc_new _ _)
  have hY : ((w.alloc (.cells #[.int .i64 xk, .int .i64 xo, .slice xa xn xc, .int .i64 xr, .int .i64 xw, .bool xb, .int .i64 xm, .int .i64 xu, .int .i64 xg, .int .i64 xd, .int .i64 xq, .bool xy] 53)).alloc (.cells #[.int .i64 yk, .int .i64 yo, .slice ya yn yc, .int .i64 yr, .int .i64 yw, .bool yb, .int .i64 ym, .int .i64 yu, .int .i64 yg, .int .i64 yd, .int .i64 yq, .bool yy] 53)).heap[w.heap.size + 1]? = some (.cells #[.int .i64 yk, .int .i64 yo, .slice ya yn yc, .int .i64 yr, .int .i64 yw, .bool yb, .int .i64 ym, .int .i64 yu, .int .i64 yg, .int .i64 yd, .int .i64 yq, .bool yy] 53 (0, 0)) := alloc_at (by simp)
  have hbw := below_alloc2 w (.cells #[.int .i64 xk, .int .i64 xo, .slice xa xn xc, .int .i64 xr, .int .i64 xw, .bool xb, .int .i64 xm, .int .i64 xu, .int .i64 xg, .int .i64 xd, .int .i64 xq, .bool xy] 53) (.cells #[.int .i64 yk, .int .i64 yo, .slice ya yn yc, .int .i64 yr, .int .i64 yw, .bool yb, .int .i64 ym, .int .i64 yu, .int .i64 yg, .int .i64 yd, .int .i64 yq, .bool yy] 53)
  have hsz : ((w.alloc (.cells #[.int .i64 xk, .int .i64 xo, .slice xa xn xc, .int .i64 xr, .int .i64 xw, .bool xb, .int .i64 xm, .int .i64 xu, .int .i64 xg, .int .i64 xd, .int .i64 xq, .bool xy] 53)).alloc (.cells #[.int .i64 yk, .int .i64 yo, .slice ya yn yc, .int .i64 yr, .int .i64 yw, .bool yb, .int .i64 ym, .int .i64 yu, .int .i64 yg, .int .i64 yd, .int .i64 yq, .bool yy] 53)).heap.size = w.heap.size + 2 := by simp
  replace hX := Lib.hid hX
  replace hY := Lib.hid hY
  replace hbw := Lib.hid hbw
  replace hsz := Lib.hid hsz
  have hf' : (400 : Int) < xn := by omega
  clear hx hy hf
  go_enter Try.func8, Try.ntmps8
  go_wp2_with fail
  generalize ((w.alloc (.cells #[.int .i64 xk, .int .i64 xo, .slice xa xn xc, .int .i64 xr, .int .i64 xw, .bool xb, .int .i64 xm, .int .i64 xu, .int .i64 xg, .int .i64 xd, .int .i64 xq, .bool xy] 53)).alloc (.cells #[.int .i64 yk, .int .i64 yo, .slice ya yn yc, .int .i64 yr, .int .i64 yw, .bool yb, .int .i64 ym, .int .i64 yu, .int .i64 yg, .int .i64 yd, .int .i64 yq, .bool yy] 53)) = W at *
  refine (HN.out _).mono ?_
  rintro e w1 ⟨rfl, hb1⟩
  have hs := hsz.out
  have hX1 := (hb1.block w.heap.size (by omega)).trans hX.out
  have hY1 := (hb1.block (w.heap.size + 1) (by omega)).trans hY.out
  have cx := (cbox_cells xk xo xr xw xm xu xg xd xq xb xy xa xn xc xF hX1).2.2.1
  have cy := (cbox_cells yk yo yr yw ym yu yg yd yq yb yy ya yn yc yF hY1).2.2.1
  have hb2 := Lib.hid (hbw.out.trans (below_lee hb1 (by omega)))
  have hs1 := hb1.size
  replace hX1 := Lib.hid hX1
  replace hY1 := Lib.hid hY1
  clear hb1
  go_wp2_with fail
  refine (HN.out _).mono ?_
  rintro e w2 ⟨rfl, hb3⟩
  have hb4 := Lib.hid (hb2.out.trans (below_lee hb3 hb2.out.size))
  clear hb3
  go_wp2_with fail
  go_ret
  exact ⟨rfl, hb4.out⟩

set_option maxRecDepth 100000 in
set_option maxHeartbeats 3200000 in
theorem cEqual_many2 (xk xo xr xw xm xu xg xd xq : Int) (xb xy : Bool) (xa : Option Addr) (xn xc : Nat) (xF : Nat → Int) (yk yo yr yw ym yu yg yd yq : Int) (yb yy : Bool) (ya : Option Addr) (yn yc : Nat) (yF : Nat → Int) (w : World) (hx : IntsAt w .i64 xa xn xF) (hy : IntsAt w .i64 ya yn yF) (hxa : xa = none → xn = 0 ∧ xc = 0) (hya : ya = none → yn = 0 ∧ yc = 0) (hf : xn ≤ 400) (hg : 400 < yn) : Calls Try.prog 8 #[.agg #[.int .i64 xk, .int .i64 xo, .slice xa xn xc, .int .i64 xr, .int .i64 xw, .bool xb, .int .i64 xm, .int .i64 xu, .int .i64 xg, .int .i64 xd, .int .i64 xq, .bool xy], .agg #[.int .i64 yk, .int .i64 yo, .slice ya yn yc, .int .i64 yr, .int .i64 yw, .bool yb, .int .i64 ym, .int .i64 yu, .int .i64 yg, .int .i64 yd, .int .i64 yq, .bool yy]] w fun e w' => e = .returned (.bool true) ∧ Below w.heap.size w w' := by
  have HN : Hid (∀ w', Calls Try.prog 36 #[] w' fun e w'' => e = .returned (.bool true) ∧ Below w'.heap.size w' w'') := Lib.hid Kd.awake15
  have hX : ((w.alloc (.cells #[.int .i64 xk, .int .i64 xo, .slice xa xn xc, .int .i64 xr, .int .i64 xw, .bool xb, .int .i64 xm, .int .i64 xu, .int .i64 xg, .int .i64 xd, .int .i64 xq, .bool xy] 53)).alloc (.cells #[.int .i64 yk, .int .i64 yo, .slice ya yn yc, .int .i64 yr, .int .i64 yw, .bool yb, .int .i64 ym, .int .i64 yu, .int .i64 yg, .int .i64 yd, .int .i64 yq, .bool yy] 53)).heap[w.heap.size]? = some (.cells #[.int .i64 xk, .int .i64 xo, .slice xa xn xc, .int .i64 xr, .int .i64 xw, .bool xb, .int .i64 xm, .int .i64 xu, .int .i64 xg, .int .i64 xd, .int .i64 xq, .bool xy] 53 (0, 0)) := alloc_keep (heap_alloc_new _ _)
  have hY : ((w.alloc (.cells #[.int .i64 xk, .int .i64 xo, .slice xa xn xc, .int .i64 xr, .int .i64 xw, .bool xb, .int .i64 xm, .int .i64 xu, .int .i64 xg, .int .i64 xd, .int .i64 xq, .bool xy] 53)).alloc (.cells #[.int .i64 yk, .int .i64 yo, .slice ya yn yc, .int .i64 yr, .int .i64 yw, .bool yb, .int .i64 ym, .int .i64 yu, .int .i64 yg, .int .i64 yd, .int .i64 yq, .bool yy] 53)).heap[w.heap.size + 1]? = some (.cells #[.int .i64 yk, .int .i64 yo, .slice ya yn yc, .int .i64 yr, .int .i64 yw, .bool yb, .int .i64 ym, .int .i64 yu, .int .i64 yg, .int .i64 yd, .int .i64 yq, .bool yy] 53 (0, 0)) := alloc_at (by simp)
  have hbw := below_alloc2 w (.cells #[.int .i64 xk, .int .i64 xo, .slice xa xn xc, .int .i64 xr, .int .i64 xw, .bool xb, .int .i64 xm, .int .i64 xu, .int .i64 xg, .int .i64 xd, .int .i64 xq, .bool xy] 53) (.cells #[.int .i64 yk, .int .i64 yo, .slice ya yn yc, .int .i64 yr, .int .i64 yw, .bool yb, .int .i64 ym, .int .i64 yu, .int .i64 yg, .int .i64 yd, .int .i64 yq, .bool yy] 53)
  have hsz : ((w.alloc (.cells #[.int .i64 xk, .int .i64 xo, .slice xa xn xc, .int .i64 xr, .int .i64 xw, .bool xb, .int .i64 xm, .int .i64 xu, .int .i64 xg, .int .i64 xd, .int .i64 xq, .bool xy] 53)).alloc (.cells #[.int .i64 yk, .int .i64 yo, .slice ya yn yc, .int .i64 yr, .int .i64 yw, .bool yb, .int .i64 ym, .int .i64 yu, .int .i64 yg, .int .i64 yd, .int .i64 yq, .bool yy] 53)).heap.size = w.heap.size + 2 := by simp
  replace hX := Lib.hid hX
  replace hY := Lib.hid hY
  replace hbw := Lib.hid hbw
  replace hsz := Lib.hid hsz
  have hf' : ¬ (400 : Int) < xn := by omega
  have hg' : (400 : Int) < yn := by omega
  clear hx hy hf hg
  go_enter Try.func8, Try.ntmps8
  go_wp2_with fail
  generalize ((w.alloc (.cells #[.int .i64 xk, .int .i64 xo, .slice xa xn xc, .int .i64 xr, .int .i64 xw, .bool xb, .int .i64 xm, .int .i64 xu, .int .i64 xg, .int .i64 xd, .int .i64 xq, .bool xy] 53)).alloc (.cells #[.int .i64 yk, .int .i64 yo, .slice ya yn yc, .int .i64 yr, .int .i64 yw, .bool yb, .int .i64 ym, .int .i64 yu, .int .i64 yg, .int .i64 yd, .int .i64 yq, .bool yy] 53)) = W at *
  refine (HN.out _).mono ?_
  rintro e w1 ⟨rfl, hb1⟩
  have hs := hsz.out
  have hX1 := (hb1.block w.heap.size (by omega)).trans hX.out
  have hY1 := (hb1.block (w.heap.size + 1) (by omega)).trans hY.out
  have cx := (cbox_cells xk xo xr xw xm xu xg xd xq xb xy xa xn xc xF hX1).2.2.1
  have cy := (cbox_cells yk yo yr yw ym yu yg yd yq yb yy ya yn yc yF hY1).2.2.1
  have hb2 := Lib.hid (hbw.out.trans (below_lee hb1 (by omega)))
  have hs1 := hb1.size
  replace hX1 := Lib.hid hX1
  replace hY1 := Lib.hid hY1
  clear hb1
  go_wp2_with fail
  refine (HN.out _).mono ?_
  rintro e w2 ⟨rfl, hb3⟩
  have hb4 := Lib.hid (hb2.out.trans (below_lee hb3 hb2.out.size))
  clear hb3
  go_wp2_with fail
  go_ret
  exact ⟨rfl, hb4.out⟩

set_option maxRecDepth 100000 in
set_option maxHeartbeats 6400000 in
theorem cEqual_few (xk xo xr xw xm xu xg xd xq : Int) (xb xy : Bool) (xa : Option Addr) (xn xc : Nat) (xF : Nat → Int) (yk yo yr yw ym yu yg yd yq : Int) (yb yy : Bool) (ya : Option Addr) (yn yc : Nat) (yF : Nat → Int) (w : World) (hx : IntsAt w .i64 xa xn xF) (hy : IntsAt w .i64 ya yn yF) (hxa : xa = none → xn = 0 ∧ xc = 0) (hya : ya = none → yn = 0 ∧ yc = 0) (hf : xn ≤ 400) (hg : yn ≤ 400) : Calls Try.prog 8 #[.agg #[.int .i64 xk, .int .i64 xo, .slice xa xn xc, .int .i64 xr, .int .i64 xw, .bool xb, .int .i64 xm, .int .i64 xu, .int .i64 xg, .int .i64 xd, .int .i64 xq, .bool xy], .agg #[.int .i64 yk, .int .i64 yo, .slice ya yn yc, .int .i64 yr, .int .i64 yw, .bool yb, .int .i64 ym, .int .i64 yu, .int .i64 yg, .int .i64 yd, .int .i64 yq, .bool yy]] w fun e w' => e = .returned (.bool true) ∧ Below w.heap.size w w' := by
  have TX : Hid (∀ w', Below w.heap.size w w' → Calls Try.prog 38 #[.agg #[.int .i64 xk, .int .i64 xo, .slice xa xn xc, .int .i64 xr, .int .i64 xw, .bool xb, .int .i64 xm, .int .i64 xu, .int .i64 xg, .int .i64 xd, .int .i64 xq, .bool xy]] w' fun e w'' => theirsPost xk xo xr xw xm xu xg xd xq xb xy xn xF w' e w'') := Lib.hid (fun w' hb => theirs15 xk xo xr xw xm xu xg xd xq xb xy xa xn xc xF w' (hx.below hb) hxa (by omega))
  have TY : Hid (∀ w', Below w.heap.size w w' → Calls Try.prog 38 #[.agg #[.int .i64 yk, .int .i64 yo, .slice ya yn yc, .int .i64 yr, .int .i64 yw, .bool yb, .int .i64 ym, .int .i64 yu, .int .i64 yg, .int .i64 yd, .int .i64 yq, .bool yy]] w' fun e w'' => theirsPost yk yo yr yw ym yu yg yd yq yb yy yn yF w' e w'') := Lib.hid (fun w' hb => theirs15 yk yo yr yw ym yu yg yd yq yb yy ya yn yc yF w' (hy.below hb) hya (by omega))
  obtain ⟨Q, hQ⟩ : ∃ Q, eqC xk xo xr xw xm xu xg xd xq xb xy xa xn xc xF yk yo yr yw ym yu yg yd yq yb yy ya yn yc yF = Q := ⟨_, rfl⟩
  have SM : Hid (∀ w', Below w.heap.size w w' → Calls Try.prog 43 #[.agg #[.int .i64 xk, .int .i64 xo, .slice xa xn xc, .int .i64 xr, .int .i64 xw, .bool xb, .int .i64 xm, .int .i64 xu, .int .i64 xg, .int .i64 xd, .int .i64 xq, .bool xy], .agg #[.int .i64 yk, .int .i64 yo, .slice ya yn yc, .int .i64 yr, .int .i64 yw, .bool yb, .int .i64 ym, .int .i64 yu, .int .i64 yg, .int .i64 yd, .int .i64 yq, .bool yy]] w' fun e w'' => e = .returned (.bool Q) ∧ Below w'.heap.size w' w'') := Lib.hid (fun w' hb => by
    have := same15 xk xo xr xw xm xu xg xd xq xb xy xa xn xc xF yk yo yr yw ym yu yg yd yq yb yy ya yn yc yF w' (hx.below hb) (hy.below hb)
    rw [hQ] at this
    exact this)
  have EQ : Hid (∀ (a1 b1 : Option Addr) (c1 d1 : Nat) w', IntsAt w' .i64 a1 xn xF → IntsAt w' .i64 b1 yn yF → Calls Try.prog 42 #[.agg #[.int .i64 xk, .int .i64 xo, .slice a1 xn c1, .int .i64 xr, .int .i64 xw, .bool xb, .int .i64 xm, .int .i64 xu, .int .i64 xg, .int .i64 xd, .int .i64 xq, .bool xy], .agg #[.int .i64 yk, .int .i64 yo, .slice b1 yn d1, .int .i64 yr, .int .i64 yw, .bool yb, .int .i64 ym, .int .i64 yu, .int .i64 yg, .int .i64 yd, .int .i64 yq, .bool yy]] w' fun e w'' => e = .returned (.bool Q) ∧ Below w'.heap.size w' w'') := Lib.hid (fun a1 b1 c1 d1 w' i1 i2 => by
    rw [← hQ]
    exact equal15 xk xo xr xw xm xu xg xd xq xb xy a1 xn c1 xF yk yo yr yw ym yu yg yd yq yb yy b1 yn d1 yF w' i1 i2)
  have EX : Hid (∀ (a1 b1 : Option Addr) (c1 d1 : Nat) w', IntsAt w' .i64 a1 xn xF → IntsAt w' .i64 b1 xn xF → Calls Try.prog 42 #[.agg #[.int .i64 xk, .int .i64 xo, .slice a1 xn c1, .int .i64 xr, .int .i64 xw, .bool xb, .int .i64 xm, .int .i64 xu, .int .i64 xg, .int .i64 xd, .int .i64 xq, .bool xy], .agg #[.int .i64 xk, .int .i64 xo, .slice b1 xn d1, .int .i64 xr, .int .i64 xw, .bool xb, .int .i64 xm, .int .i64 xu, .int .i64 xg, .int .i64 xd, .int .i64 xq, .bool xy]] w' fun e w'' => e = .returned (.bool true) ∧ Below w'.heap.size w' w'') := Lib.hid (fun a1 b1 c1 d1 w' i1 i2 => by
    have := equal15 xk xo xr xw xm xu xg xd xq xb xy a1 xn c1 xF xk xo xr xw xm xu xg xd xq xb xy b1 xn d1 xF w' i1 i2
    rw [eqC_self xk xo xr xw xm xu xg xd xq xb xy xa xn xc xF] at this
    exact this)
  have HN : Hid (∀ w', Calls Try.prog 36 #[] w' fun e w'' => e = .returned (.bool true) ∧ Below w'.heap.size w' w'') := Lib.hid Kd.awake15
  have hX : ((w.alloc (.cells #[.int .i64 xk, .int .i64 xo, .slice xa xn xc, .int .i64 xr, .int .i64 xw, .bool xb, .int .i64 xm, .int .i64 xu, .int .i64 xg, .int .i64 xd, .int .i64 xq, .bool xy] 53)).alloc (.cells #[.int .i64 yk, .int .i64 yo, .slice ya yn yc, .int .i64 yr, .int .i64 yw, .bool yb, .int .i64 ym, .int .i64 yu, .int .i64 yg, .int .i64 yd, .int .i64 yq, .bool yy] 53)).heap[w.heap.size]? = some (.cells #[.int .i64 xk, .int .i64 xo, .slice xa xn xc, .int .i64 xr, .int .i64 xw, .bool xb, .int .i64 xm, .int .i64 xu, .int .i64 xg, .int .i64 xd, .int .i64 xq, .bool xy] 53 (0, 0)) := alloc_keep (heap_alloc_new _ _)
  have hY : ((w.alloc (.cells #[.int .i64 xk, .int .i64 xo, .slice xa xn xc, .int .i64 xr, .int .i64 xw, .bool xb, .int .i64 xm, .int .i64 xu, .int .i64 xg, .int .i64 xd, .int .i64 xq, .bool xy] 53)).alloc (.cells #[.int .i64 yk, .int .i64 yo, .slice ya yn yc, .int .i64 yr, .int .i64 yw, .bool yb, .int .i64 ym, .int .i64 yu, .int .i64 yg, .int .i64 yd, .int .i64 yq, .bool yy] 53)).heap[w.heap.size + 1]? = some (.cells #[.int .i64 yk, .int .i64 yo, .slice ya yn yc, .int .i64 yr, .int .i64 yw, .bool yb, .int .i64 ym, .int .i64 yu, .int .i64 yg, .int .i64 yd, .int .i64 yq, .bool yy] 53 (0, 0)) := alloc_at (by simp)
  have hbw := below_alloc2 w (.cells #[.int .i64 xk, .int .i64 xo, .slice xa xn xc, .int .i64 xr, .int .i64 xw, .bool xb, .int .i64 xm, .int .i64 xu, .int .i64 xg, .int .i64 xd, .int .i64 xq, .bool xy] 53) (.cells #[.int .i64 yk, .int .i64 yo, .slice ya yn yc, .int .i64 yr, .int .i64 yw, .bool yb, .int .i64 ym, .int .i64 yu, .int .i64 yg, .int .i64 yd, .int .i64 yq, .bool yy] 53)
  have hsz : ((w.alloc (.cells #[.int .i64 xk, .int .i64 xo, .slice xa xn xc, .int .i64 xr, .int .i64 xw, .bool xb, .int .i64 xm, .int .i64 xu, .int .i64 xg, .int .i64 xd, .int .i64 xq, .bool xy] 53)).alloc (.cells #[.int .i64 yk, .int .i64 yo, .slice ya yn yc, .int .i64 yr, .int .i64 yw, .bool yb, .int .i64 ym, .int .i64 yu, .int .i64 yg, .int .i64 yd, .int .i64 yq, .bool yy] 53)).heap.size = w.heap.size + 2 := by simp
  replace hX := Lib.hid hX
  replace hY := Lib.hid hY
  replace hbw := Lib.hid hbw
  replace hsz := Lib.hid hsz
  have hf' : ¬ (400 : Int) < xn := by omega
  have hg' : ¬ (400 : Int) < yn := by omega
  replace hQ := Lib.hid hQ
  clear hx hy hf hg
  go_enter Try.func8, Try.ntmps8
  go_wp2_with fail
  generalize ((w.alloc (.cells #[.int .i64 xk, .int .i64 xo, .slice xa xn xc, .int .i64 xr, .int .i64 xw, .bool xb, .int .i64 xm, .int .i64 xu, .int .i64 xg, .int .i64 xd, .int .i64 xq, .bool xy] 53)).alloc (.cells #[.int .i64 yk, .int .i64 yo, .slice ya yn yc, .int .i64 yr, .int .i64 yw, .bool yb, .int .i64 ym, .int .i64 yu, .int .i64 yg, .int .i64 yd, .int .i64 yq, .bool yy] 53)) = W at *
  refine (HN.out _).mono ?_
  rintro e w1 ⟨rfl, hb1⟩
  have hs := hsz.out
  have hX1 := (hb1.block w.heap.size (by omega)).trans hX.out
  have hY1 := (hb1.block (w.heap.size + 1) (by omega)).trans hY.out
  have cx := (cbox_cells xk xo xr xw xm xu xg xd xq xb xy xa xn xc xF hX1).2.2.1
  have cy := (cbox_cells yk yo yr yw ym yu yg yd yq yb yy ya yn yc yF hY1).2.2.1
  have hb2 := Lib.hid (hbw.out.trans (below_lee hb1 (by omega)))
  have hs1 := hb1.size
  replace hX1 := Lib.hid hX1
  replace hY1 := Lib.hid hY1
  clear hb1
  go_wp2_with fail
  have KS : Hid (∀ w', Below w1.heap.size w1 w' → (w'.cell? ⟨w.heap.size, 0, none⟩ = some (.int .i64 xk) ∧ w'.cell? ⟨w.heap.size, 1, none⟩ = some (.int .i64 xo) ∧ w'.cell? ⟨w.heap.size, 2, none⟩ = some (.slice xa xn xc) ∧ w'.cell? ⟨w.heap.size, 3, none⟩ = some (.int .i64 xr) ∧ w'.cell? ⟨w.heap.size, 4, none⟩ = some (.int .i64 xw) ∧ w'.cell? ⟨w.heap.size, 5, none⟩ = some (.bool xb) ∧ w'.cell? ⟨w.heap.size, 6, none⟩ = some (.int .i64 xm) ∧ w'.cell? ⟨w.heap.size, 7, none⟩ = some (.int .i64 xu) ∧ w'.cell? ⟨w.heap.size, 8, none⟩ = some (.int .i64 xg) ∧ w'.cell? ⟨w.heap.size, 9, none⟩ = some (.int .i64 xd) ∧ w'.cell? ⟨w.heap.size, 10, none⟩ = some (.int .i64 xq) ∧ w'.cell? ⟨w.heap.size, 11, none⟩ = some (.bool xy)) ∧ (w'.cell? ⟨(w.heap.size + 1), 0, none⟩ = some (.int .i64 yk) ∧ w'.cell? ⟨(w.heap.size + 1), 1, none⟩ = some (.int .i64 yo) ∧ w'.cell? ⟨(w.heap.size + 1), 2, none⟩ = some (.slice ya yn yc) ∧ w'.cell? ⟨(w.heap.size + 1), 3, none⟩ = some (.int .i64 yr) ∧ w'.cell? ⟨(w.heap.size + 1), 4, none⟩ = some (.int .i64 yw) ∧ w'.cell? ⟨(w.heap.size + 1), 5, none⟩ = some (.bool yb) ∧ w'.cell? ⟨(w.heap.size + 1), 6, none⟩ = some (.int .i64 ym) ∧ w'.cell? ⟨(w.heap.size + 1), 7, none⟩ = some (.int .i64 yu) ∧ w'.cell? ⟨(w.heap.size + 1), 8, none⟩ = some (.int .i64 yg) ∧ w'.cell? ⟨(w.heap.size + 1), 9, none⟩ = some (.int .i64 yd) ∧ w'.cell? ⟨(w.heap.size + 1), 10, none⟩ = some (.int .i64 yq) ∧ w'.cell? ⟨(w.heap.size + 1), 11, none⟩ = some (.bool yy))) := Lib.hid (fun w' hq => ⟨cbox_cells xk xo xr xw xm xu xg xd xq xb xy xa xn xc xF ((hq.block w.heap.size (by omega)).trans hX1.out), cbox_cells yk yo yr yw ym yu yg yd yq yb yy ya yn yc yF ((hq.block (w.heap.size + 1) (by omega)).trans hY1.out)⟩)
  clear hX1 hY1 hX hY hbw hsz hs hs1 W cx cy hf' hg'
  have hb := Lib.hid (Below.drew (Below.refl w1.heap.size w1))
  go_region_held3 (fun w' => (w'.cell? ⟨w.heap.size, 0, none⟩ = some (.int .i64 xk) ∧ w'.cell? ⟨w.heap.size, 1, none⟩ = some (.int .i64 xo) ∧ w'.cell? ⟨w.heap.size, 2, none⟩ = some (.slice xa xn xc) ∧ w'.cell? ⟨w.heap.size, 3, none⟩ = some (.int .i64 xr) ∧ w'.cell? ⟨w.heap.size, 4, none⟩ = some (.int .i64 xw) ∧ w'.cell? ⟨w.heap.size, 5, none⟩ = some (.bool xb) ∧ w'.cell? ⟨w.heap.size, 6, none⟩ = some (.int .i64 xm) ∧ w'.cell? ⟨w.heap.size, 7, none⟩ = some (.int .i64 xu) ∧ w'.cell? ⟨w.heap.size, 8, none⟩ = some (.int .i64 xg) ∧ w'.cell? ⟨w.heap.size, 9, none⟩ = some (.int .i64 xd) ∧ w'.cell? ⟨w.heap.size, 10, none⟩ = some (.int .i64 xq) ∧ w'.cell? ⟨w.heap.size, 11, none⟩ = some (.bool xy)) ∧ (w'.cell? ⟨(w.heap.size + 1), 0, none⟩ = some (.int .i64 yk) ∧ w'.cell? ⟨(w.heap.size + 1), 1, none⟩ = some (.int .i64 yo) ∧ w'.cell? ⟨(w.heap.size + 1), 2, none⟩ = some (.slice ya yn yc) ∧ w'.cell? ⟨(w.heap.size + 1), 3, none⟩ = some (.int .i64 yr) ∧ w'.cell? ⟨(w.heap.size + 1), 4, none⟩ = some (.int .i64 yw) ∧ w'.cell? ⟨(w.heap.size + 1), 5, none⟩ = some (.bool yb) ∧ w'.cell? ⟨(w.heap.size + 1), 6, none⟩ = some (.int .i64 ym) ∧ w'.cell? ⟨(w.heap.size + 1), 7, none⟩ = some (.int .i64 yu) ∧ w'.cell? ⟨(w.heap.size + 1), 8, none⟩ = some (.int .i64 yg) ∧ w'.cell? ⟨(w.heap.size + 1), 9, none⟩ = some (.int .i64 yd) ∧ w'.cell? ⟨(w.heap.size + 1), 10, none⟩ = some (.int .i64 yq) ∧ w'.cell? ⟨(w.heap.size + 1), 11, none⟩ = some (.bool yy))) (first | exact KS.out _ hb.out)
    (first
      | (go_at_call 38; (with_reducible refine (TY.out _ (hb2.out.trans (below_lee hb.out hb2.out.size))).mono ?_); rintro e w3 ⟨b1, d1, rfl, j1, m1, _, hk⟩; replace i1 := Lib.hid (i1.out.below hk); replace j1 := Lib.hid j1; replace hb := Lib.hid (hb.out.trans (below_lee hk hb.out.size)); clear hk)
      | (go_at_call 38; (with_reducible refine (TX.out _ (hb2.out.trans (below_lee hb.out hb2.out.size))).mono ?_); rintro e w3 ⟨a1, c1, rfl, i2, n1, _, hk⟩; (try (have i1p := i1.out.below hk; replace j1 := Lib.hid (j1.out.below hk))); (try (have z1 := Lib.hid i1p; clear i1p)); have i1 := Lib.hid i2; clear i2; replace hb := Lib.hid (hb.out.trans (below_lee hk hb.out.size)); clear hk)
      | (go_at_call 43; (with_reducible refine (SM.out _ (hb2.out.trans (below_lee hb.out hb2.out.size))).mono ?_); rintro e w3 ⟨rfl, hk⟩; replace i1 := Lib.hid (i1.out.below hk); replace j1 := Lib.hid (j1.out.below hk); replace hb := Lib.hid (hb.out.trans (below_lee hk hb.out.size)); clear hk)
      | (go_at_call 42; (with_reducible refine (EX.out _ _ _ _ _ z1.out i1.out).mono ?_); rintro e w3 ⟨rfl, hk⟩; replace hb := Lib.hid (hb.out.trans (below_lee hk hb.out.size)); clear hk)
      | (go_at_call 42; (with_reducible refine (EQ.out _ _ _ _ _ i1.out j1.out).mono ?_); rintro e w3 ⟨rfl, hk⟩; replace i1 := Lib.hid (i1.out.below hk); replace j1 := Lib.hid (j1.out.below hk); replace hb := Lib.hid (hb.out.trans (below_lee hk hb.out.size)); clear hk))
  all_goals
    go_wp2_with fail
    go_ret
    exact ⟨rfl, hb2.out.trans (below_lee hb.out hb2.out.size)⟩

theorem commandEqual_walk (xk xo xr xw xm xu xg xd xq : Int) (xb xy : Bool) (xa : Option Addr) (xn xc : Nat) (xF : Nat → Int) (yk yo yr yw ym yu yg yd yq : Int) (yb yy : Bool) (ya : Option Addr) (yn yc : Nat) (yF : Nat → Int) (w : World) (hx : IntsAt w .i64 xa xn xF) (hy : IntsAt w .i64 ya yn yF) (hxa : xa = none → xn = 0 ∧ xc = 0) (hya : ya = none → yn = 0 ∧ yc = 0) : Calls Try.prog 8 #[.agg #[.int .i64 xk, .int .i64 xo, .slice xa xn xc, .int .i64 xr, .int .i64 xw, .bool xb, .int .i64 xm, .int .i64 xu, .int .i64 xg, .int .i64 xd, .int .i64 xq, .bool xy], .agg #[.int .i64 yk, .int .i64 yo, .slice ya yn yc, .int .i64 yr, .int .i64 yw, .bool yb, .int .i64 ym, .int .i64 yu, .int .i64 yg, .int .i64 yd, .int .i64 yq, .bool yy]] w fun e w' => e = .returned (.bool true) ∧ Below w.heap.size w w' := by
  by_cases hf : 400 < xn
  · exact cEqual_many xk xo xr xw xm xu xg xd xq xb xy xa xn xc xF yk yo yr yw ym yu yg yd yq yb yy ya yn yc yF w hx hy hxa hya hf
  · by_cases hg : 400 < yn
    · exact cEqual_many2 xk xo xr xw xm xu xg xd xq xb xy xa xn xc xF yk yo yr yw ym yu yg yd yq yb yy ya yn yc yF w hx hy hxa hya (by omega) hg
    · exact cEqual_few xk xo xr xw xm xu xg xd xq xb xy xa xn xc xF yk yo yr yw ym yu yg yd yq yb yy ya yn yc yF w hx hy hxa hya (by omega) (by omega)

end Go.Proofs.Ytnkgbigjpihfeaa.Ma
