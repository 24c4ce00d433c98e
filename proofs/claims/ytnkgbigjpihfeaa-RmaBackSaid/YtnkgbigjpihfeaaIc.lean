/- Returns are told to be alike just if they are; a clone is: the walk of RmaEqual. -/
import Derived.Test.YtnkgbigjpihfeaaIb
import Derived.Test.YtnkgbigjpihfeaaMb
set_option linter.unusedVariables false
set_option linter.unusedSimpArgs false
namespace Go.Proofs.Ytnkgbigjpihfeaa.Ma
open Go.RowKit Go.Proofs.Ytnkgbigjpihfeaa.Lib

theorem eqR_self (x0 x1 x2 x3 x4 x6 x7 x10 x11 x12 x13 : Int) (x5 : Bool) (xa xd : Option Addr) (xn xc xm xe : Nat) (xF xG : Nat → Int) (a1 a2 a3 a4 : Option Addr) (c1 c2 c3 c4 : Nat) : eqR x0 x1 x2 x3 x4 x6 x7 x10 x11 x12 x13 x5 a1 a2 xn c1 xm c2 xF xG x0 x1 x2 x3 x4 x6 x7 x10 x11 x12 x13 x5 a3 a4 xn c3 xm c4 xF xG = true := by simp [eqR, sameB_self]


theorem box_cells (x0 x1 x2 x3 x4 x6 x7 x10 x11 x12 x13 : Int) (x5 : Bool) (xa xd : Option Addr) (xn xc xm xe : Nat) (xF xG : Nat → Int) {w : World} {b : Nat} (h : w.heap[b]? = some (.cells #[.int .i64 x0, .int .i64 x1, .int .i64 x2, .int .i64 x3, .int .i64 x4, .bool x5, .int .i64 x6, .int .i64 x7, .slice xa xn xc, .slice xd xm xe, .int .i64 x10, .int .i64 x11, .int .i64 x12, .int .i64 x13] 73 (0, 0))) : w.cell? ⟨b, 0, none⟩ = some (.int .i64 x0) ∧ w.cell? ⟨b, 1, none⟩ = some (.int .i64 x1) ∧ w.cell? ⟨b, 2, none⟩ = some (.int .i64 x2) ∧ w.cell? ⟨b, 3, none⟩ = some (.int .i64 x3) ∧ w.cell? ⟨b, 4, none⟩ = some (.int .i64 x4) ∧ w.cell? ⟨b, 5, none⟩ = some (.bool x5) ∧ w.cell? ⟨b, 6, none⟩ = some (.int .i64 x6) ∧ w.cell? ⟨b, 7, none⟩ = some (.int .i64 x7) ∧ w.cell? ⟨b, 8, none⟩ = some (.slice xa xn xc) ∧ w.cell? ⟨b, 9, none⟩ = some (.slice xd xm xe) ∧ w.cell? ⟨b, 10, none⟩ = some (.int .i64 x10) ∧ w.cell? ⟨b, 11, none⟩ = some (.int .i64 x11) ∧ w.cell? ⟨b, 12, none⟩ = some (.int .i64 x12) ∧ w.cell? ⟨b, 13, none⟩ = some (.int .i64 x13) := by simp [World.cell?, h]

set_option maxRecDepth 100000 in
set_option maxHeartbeats 3200000 in
theorem rmaEqual_many (x0 x1 x2 x3 x4 x6 x7 x10 x11 x12 x13 : Int) (x5 : Bool) (xa xd : Option Addr) (xn xc xm xe : Nat) (xF xG : Nat → Int) (y0 y1 y2 y3 y4 y6 y7 y10 y11 y12 y13 : Int) (y5 : Bool) (ya yd : Option Addr) (yn yc ym ye : Nat) (yF yG : Nat → Int) (w : World) (hx1 : IntsAt w .i64 xa xn xF) (hx2 : IntsAt w .i64 xd xm xG) (hy1 : IntsAt w .i64 ya yn yF) (hy2 : IntsAt w .i64 yd ym yG) (hxa : xa = none → xn = 0 ∧ xc = 0) (hxd : xd = none → xm = 0 ∧ xe = 0) (hya : ya = none → yn = 0 ∧ yc = 0) (hyd : yd = none → ym = 0 ∧ ye = 0) (hf : fewB xn xm = false) : Calls Try.prog 12 #[.agg #[.int .i64 x0, .int .i64 x1, .int .i64 x2, .int .i64 x3, .int .i64 x4, .bool x5, .int .i64 x6, .int .i64 x7, .slice xa xn xc, .slice xd xm xe, .int .i64 x10, .int .i64 x11, .int .i64 x12, .int .i64 x13], .agg #[.int .i64 y0, .int .i64 y1, .int .i64 y2, .int .i64 y3, .int .i64 y4, .bool y5, .int .i64 y6, .int .i64 y7, .slice ya yn yc, .slice yd ym ye, .int .i64 y10, .int .i64 y11, .int .i64 y12, .int .i64 y13]] w fun e w' => e = .returned (.bool true) ∧ Below w.heap.size w w' := by
  have HN : Hid (∀ w', Calls Try.prog 48 #[] w' fun e w'' => e = .returned (.bool true) ∧ w' = w'') := Lib.hid awake14
  have HFx : Hid (∀ w', Calls Try.prog 49 #[.agg #[.int .i64 x0, .int .i64 x1, .int .i64 x2, .int .i64 x3, .int .i64 x4, .bool x5, .int .i64 x6, .int .i64 x7, .slice xa xn xc, .slice xd xm xe, .int .i64 x10, .int .i64 x11, .int .i64 x12, .int .i64 x13]] w' fun e w'' => e = .returned (.bool (fewB xn xm)) ∧ Below w'.heap.size w' w'') := Lib.hid (fun w' => few_any x0 x1 x2 x3 x4 x6 x7 x10 x11 x12 x13 x5 xa xd xn xc xm xe w' (by have := hx1.1; omega) (by have := hx2.1; omega))
  have HFy : Hid (∀ w', Calls Try.prog 49 #[.agg #[.int .i64 y0, .int .i64 y1, .int .i64 y2, .int .i64 y3, .int .i64 y4, .bool y5, .int .i64 y6, .int .i64 y7, .slice ya yn yc, .slice yd ym ye, .int .i64 y10, .int .i64 y11, .int .i64 y12, .int .i64 y13]] w' fun e w'' => e = .returned (.bool (fewB yn ym)) ∧ Below w'.heap.size w' w'') := Lib.hid (fun w' => few_any y0 y1 y2 y3 y4 y6 y7 y10 y11 y12 y13 y5 ya yd yn yc ym ye w' (by have := hy1.1; omega) (by have := hy2.1; omega))
  rw [hf] at HFx
  have hA : (w.alloc (.cells #[.int .i64 x0, .int .i64 x1, .int .i64 x2, .int .i64 x3, .int .i64 x4, .bool x5, .int .i64 x6, .int .i64 x7, .slice xa xn xc, .slice xd xm xe, .int .i64 x10, .int .i64 x11, .int .i64 x12, .int .i64 x13] 73)).heap[w.heap.size]? = some (.cells #[.int .i64 x0, .int .i64 x1, .int .i64 x2, .int .i64 x3, .int .i64 x4, .bool x5, .int .i64 x6, .int .i64 x7, .slice xa xn xc, .slice xd xm xe, .int .i64 x10, .int .i64 x11, .int .i64 x12, .int .i64 x13] 73 (0, 0)) := heap_alloc_new _ _
  clear hf hx1 hx2 hy1 hy2
  go_enter Try.func12, Try.ntmps12
  go_wp2_with fail
  refine (HN.out _).mono ?_
  rintro e w1 ⟨rfl, rfl⟩
  go_wp2_with fail
  refine (HFx.out _).mono ?_
  rintro e w1 ⟨rfl, hb1⟩
  go_wp2_with fail
  refine (HN.out _).mono ?_
  rintro e w2 ⟨rfl, rfl⟩
  go_wp2_with fail
  go_ret
  exact ⟨rfl, (below_alloc2 w _ _).trans (below_lee hb1 (by simp <;> omega))⟩

set_option maxRecDepth 100000 in
set_option maxHeartbeats 3200000 in
theorem rmaEqual_many2 (x0 x1 x2 x3 x4 x6 x7 x10 x11 x12 x13 : Int) (x5 : Bool) (xa xd : Option Addr) (xn xc xm xe : Nat) (xF xG : Nat → Int) (y0 y1 y2 y3 y4 y6 y7 y10 y11 y12 y13 : Int) (y5 : Bool) (ya yd : Option Addr) (yn yc ym ye : Nat) (yF yG : Nat → Int) (w : World) (hx1 : IntsAt w .i64 xa xn xF) (hx2 : IntsAt w .i64 xd xm xG) (hy1 : IntsAt w .i64 ya yn yF) (hy2 : IntsAt w .i64 yd ym yG) (hxa : xa = none → xn = 0 ∧ xc = 0) (hxd : xd = none → xm = 0 ∧ xe = 0) (hya : ya = none → yn = 0 ∧ yc = 0) (hyd : yd = none → ym = 0 ∧ ye = 0) (hf : fewB xn xm = true) (hg : fewB yn ym = false) : Calls Try.prog 12 #[.agg #[.int .i64 x0, .int .i64 x1, .int .i64 x2, .int .i64 x3, .int .i64 x4, .bool x5, .int .i64 x6, .int .i64 x7, .slice xa xn xc, .slice xd xm xe, .int .i64 x10, .int .i64 x11, .int .i64 x12, .int .i64 x13], .agg #[.int .i64 y0, .int .i64 y1, .int .i64 y2, .int .i64 y3, .int .i64 y4, .bool y5, .int .i64 y6, .int .i64 y7, .slice ya yn yc, .slice yd ym ye, .int .i64 y10, .int .i64 y11, .int .i64 y12, .int .i64 y13]] w fun e w' => e = .returned (.bool true) ∧ Below w.heap.size w w' := by
  have HN : Hid (∀ w', Calls Try.prog 48 #[] w' fun e w'' => e = .returned (.bool true) ∧ w' = w'') := Lib.hid awake14
  have HFx : Hid (∀ w', Calls Try.prog 49 #[.agg #[.int .i64 x0, .int .i64 x1, .int .i64 x2, .int .i64 x3, .int .i64 x4, .bool x5, .int .i64 x6, .int .i64 x7, .slice xa xn xc, .slice xd xm xe, .int .i64 x10, .int .i64 x11, .int .i64 x12, .int .i64 x13]] w' fun e w'' => e = .returned (.bool (fewB xn xm)) ∧ Below w'.heap.size w' w'') := Lib.hid (fun w' => few_any x0 x1 x2 x3 x4 x6 x7 x10 x11 x12 x13 x5 xa xd xn xc xm xe w' (by have := hx1.1; omega) (by have := hx2.1; omega))
  have HFy : Hid (∀ w', Calls Try.prog 49 #[.agg #[.int .i64 y0, .int .i64 y1, .int .i64 y2, .int .i64 y3, .int .i64 y4, .bool y5, .int .i64 y6, .int .i64 y7, .slice ya yn yc, .slice yd ym ye, .int .i64 y10, .int .i64 y11, .int .i64 y12, .int .i64 y13]] w' fun e w'' => e = .returned (.bool (fewB yn ym)) ∧ Below w'.heap.size w' w'') := Lib.hid (fun w' => few_any y0 y1 y2 y3 y4 y6 y7 y10 y11 y12 y13 y5 ya yd yn yc ym ye w' (by have := hy1.1; omega) (by have := hy2.1; omega))
  rw [hf] at HFx
  rw [hg] at HFy
  have hA : ((w.alloc (.cells #[.int .i64 x0, .int .i64 x1, .int .i64 x2, .int .i64 x3, .int .i64 x4, .bool x5, .int .i64 x6, .int .i64 x7, .slice xa xn xc, .slice xd xm xe, .int .i64 x10, .int .i64 x11, .int .i64 x12, .int .i64 x13] 73)).alloc (.cells #[.int .i64 y0, .int .i64 y1, .int .i64 y2, .int .i64 y3, .int .i64 y4, .bool y5, .int .i64 y6, .int .i64 y7, .slice ya yn yc, .slice yd ym ye, .int .i64 y10, .int .i64 y11, .int .i64 y12, .int .i64 y13] 73)).heap[w.heap.size + 1]? = some (.cells #[.int .i64 y0, .int .i64 y1, .int .i64 y2, .int .i64 y3, .int .i64 y4, .bool y5, .int .i64 y6, .int .i64 y7, .slice ya yn yc, .slice yd ym ye, .int .i64 y10, .int .i64 y11, .int .i64 y12, .int .i64 y13] 73 (0, 0)) := alloc_at (by simp)
  have hbw := below_alloc2 w (.cells #[.int .i64 x0, .int .i64 x1, .int .i64 x2, .int .i64 x3, .int .i64 x4, .bool x5, .int .i64 x6, .int .i64 x7, .slice xa xn xc, .slice xd xm xe, .int .i64 x10, .int .i64 x11, .int .i64 x12, .int .i64 x13] 73) (.cells #[.int .i64 y0, .int .i64 y1, .int .i64 y2, .int .i64 y3, .int .i64 y4, .bool y5, .int .i64 y6, .int .i64 y7, .slice ya yn yc, .slice yd ym ye, .int .i64 y10, .int .i64 y11, .int .i64 y12, .int .i64 y13] 73)
  have hsz : ((w.alloc (.cells #[.int .i64 x0, .int .i64 x1, .int .i64 x2, .int .i64 x3, .int .i64 x4, .bool x5, .int .i64 x6, .int .i64 x7, .slice xa xn xc, .slice xd xm xe, .int .i64 x10, .int .i64 x11, .int .i64 x12, .int .i64 x13] 73)).alloc (.cells #[.int .i64 y0, .int .i64 y1, .int .i64 y2, .int .i64 y3, .int .i64 y4, .bool y5, .int .i64 y6, .int .i64 y7, .slice ya yn yc, .slice yd ym ye, .int .i64 y10, .int .i64 y11, .int .i64 y12, .int .i64 y13] 73)).heap.size = w.heap.size + 2 := by simp
  replace hA := Lib.hid hA
  replace hbw := Lib.hid hbw
  replace hsz := Lib.hid hsz
  clear hf hg hx1 hx2 hy1 hy2
  go_enter Try.func12, Try.ntmps12
  go_wp2_with fail
  refine (HN.out _).mono ?_
  rintro e w1 ⟨rfl, rfl⟩
  go_wp2_with fail
  generalize ((w.alloc (.cells #[.int .i64 x0, .int .i64 x1, .int .i64 x2, .int .i64 x3, .int .i64 x4, .bool x5, .int .i64 x6, .int .i64 x7, .slice xa xn xc, .slice xd xm xe, .int .i64 x10, .int .i64 x11, .int .i64 x12, .int .i64 x13] 73)).alloc (.cells #[.int .i64 y0, .int .i64 y1, .int .i64 y2, .int .i64 y3, .int .i64 y4, .bool y5, .int .i64 y6, .int .i64 y7, .slice ya yn yc, .slice yd ym ye, .int .i64 y10, .int .i64 y11, .int .i64 y12, .int .i64 y13] 73)) = W at *
  refine (HFx.out _).mono ?_
  rintro e w1 ⟨rfl, hb1⟩
  have hs := hsz.out
  obtain ⟨yk0, yk1, yk2, yk3, yk4, yk5, yk6, yk7, yk8, yk9, yk10, yk11, yk12, yk13⟩ := box_cells y0 y1 y2 y3 y4 y6 y7 y10 y11 y12 y13 y5 ya yd yn yc ym ye yF yG ((hb1.block (w.heap.size + 1) (by omega)).trans hA.out)
  have hb2 := Lib.hid (hbw.out.trans (below_lee hb1 (by omega)))
  have hs1 := hb1.size
  clear hb1
  go_wp2_with fail
  refine (HFy.out _).mono ?_
  rintro e w2 ⟨rfl, hb3⟩
  have hb4 := Lib.hid (hb2.out.trans (below_lee hb3 (by omega)))
  clear hb3
  go_wp2_with fail
  refine (HN.out _).mono ?_
  rintro e w3 ⟨rfl, rfl⟩
  go_wp2_with fail
  go_ret
  exact ⟨rfl, hb4.out⟩

set_option maxRecDepth 100000 in
set_option maxHeartbeats 6400000 in
theorem rmaEqual_few (x0 x1 x2 x3 x4 x6 x7 x10 x11 x12 x13 : Int) (x5 : Bool) (xa xd : Option Addr) (xn xc xm xe : Nat) (xF xG : Nat → Int) (y0 y1 y2 y3 y4 y6 y7 y10 y11 y12 y13 : Int) (y5 : Bool) (ya yd : Option Addr) (yn yc ym ye : Nat) (yF yG : Nat → Int) (w : World) (hx1 : IntsAt w .i64 xa xn xF) (hx2 : IntsAt w .i64 xd xm xG) (hy1 : IntsAt w .i64 ya yn yF) (hy2 : IntsAt w .i64 yd ym yG) (hxa : xa = none → xn = 0 ∧ xc = 0) (hxd : xd = none → xm = 0 ∧ xe = 0) (hya : ya = none → yn = 0 ∧ yc = 0) (hyd : yd = none → ym = 0 ∧ ye = 0) (hf : fewB xn xm = true) (hg : fewB yn ym = true) : Calls Try.prog 12 #[.agg #[.int .i64 x0, .int .i64 x1, .int .i64 x2, .int .i64 x3, .int .i64 x4, .bool x5, .int .i64 x6, .int .i64 x7, .slice xa xn xc, .slice xd xm xe, .int .i64 x10, .int .i64 x11, .int .i64 x12, .int .i64 x13], .agg #[.int .i64 y0, .int .i64 y1, .int .i64 y2, .int .i64 y3, .int .i64 y4, .bool y5, .int .i64 y6, .int .i64 y7, .slice ya yn yc, .slice yd ym ye, .int .i64 y10, .int .i64 y11, .int .i64 y12, .int .i64 y13]] w fun e w' => e = .returned (.bool true) ∧ Below w.heap.size w w' := by
  have HN : Hid (∀ w', Calls Try.prog 48 #[] w' fun e w'' => e = .returned (.bool true) ∧ w' = w'') := Lib.hid awake14
  have HFx : Hid (∀ w', Calls Try.prog 49 #[.agg #[.int .i64 x0, .int .i64 x1, .int .i64 x2, .int .i64 x3, .int .i64 x4, .bool x5, .int .i64 x6, .int .i64 x7, .slice xa xn xc, .slice xd xm xe, .int .i64 x10, .int .i64 x11, .int .i64 x12, .int .i64 x13]] w' fun e w'' => e = .returned (.bool (fewB xn xm)) ∧ Below w'.heap.size w' w'') := Lib.hid (fun w' => few_any x0 x1 x2 x3 x4 x6 x7 x10 x11 x12 x13 x5 xa xd xn xc xm xe w' (by have := hx1.1; omega) (by have := hx2.1; omega))
  have HFy : Hid (∀ w', Calls Try.prog 49 #[.agg #[.int .i64 y0, .int .i64 y1, .int .i64 y2, .int .i64 y3, .int .i64 y4, .bool y5, .int .i64 y6, .int .i64 y7, .slice ya yn yc, .slice yd ym ye, .int .i64 y10, .int .i64 y11, .int .i64 y12, .int .i64 y13]] w' fun e w'' => e = .returned (.bool (fewB yn ym)) ∧ Below w'.heap.size w' w'') := Lib.hid (fun w' => few_any y0 y1 y2 y3 y4 y6 y7 y10 y11 y12 y13 y5 ya yd yn yc ym ye w' (by have := hy1.1; omega) (by have := hy2.1; omega))
  rw [hf] at HFx
  rw [hg] at HFy
  have hxn : xn ≤ 300 ∧ xm ≤ 300 := by simpa [fewB] using hf
  have hyn : yn ≤ 300 ∧ ym ≤ 300 := by simpa [fewB] using hg
  have TX : Hid (∀ w', Below w.heap.size w w' → Calls Try.prog 51 #[.agg #[.int .i64 x0, .int .i64 x1, .int .i64 x2, .int .i64 x3, .int .i64 x4, .bool x5, .int .i64 x6, .int .i64 x7, .slice xa xn xc, .slice xd xm xe, .int .i64 x10, .int .i64 x11, .int .i64 x12, .int .i64 x13]] w' fun e w'' => clonePost x0 x1 x2 x3 x4 x6 x7 x10 x11 x12 x13 x5 xa xd xn xc xm xe xF xG w' e w'') := Lib.hid (fun w' hb => theirs14 x0 x1 x2 x3 x4 x6 x7 x10 x11 x12 x13 x5 xa xd xn xc xm xe xF xG w' (hx1.below hb) (hx2.below hb) hxa hxd hxn.1 hxn.2)
  have TY : Hid (∀ w', Below w.heap.size w w' → Calls Try.prog 51 #[.agg #[.int .i64 y0, .int .i64 y1, .int .i64 y2, .int .i64 y3, .int .i64 y4, .bool y5, .int .i64 y6, .int .i64 y7, .slice ya yn yc, .slice yd ym ye, .int .i64 y10, .int .i64 y11, .int .i64 y12, .int .i64 y13]] w' fun e w'' => clonePost y0 y1 y2 y3 y4 y6 y7 y10 y11 y12 y13 y5 ya yd yn yc ym ye yF yG w' e w'') := Lib.hid (fun w' hb => theirs14 y0 y1 y2 y3 y4 y6 y7 y10 y11 y12 y13 y5 ya yd yn yc ym ye yF yG w' (hy1.below hb) (hy2.below hb) hya hyd hyn.1 hyn.2)
  obtain ⟨Q, hQ⟩ : ∃ Q, eqR x0 x1 x2 x3 x4 x6 x7 x10 x11 x12 x13 x5 xa xd xn xc xm xe xF xG y0 y1 y2 y3 y4 y6 y7 y10 y11 y12 y13 y5 ya yd yn yc ym ye yF yG = Q := ⟨_, rfl⟩
  have SM : Hid (∀ w', Below w.heap.size w w' → Calls Try.prog 52 #[.agg #[.int .i64 x0, .int .i64 x1, .int .i64 x2, .int .i64 x3, .int .i64 x4, .bool x5, .int .i64 x6, .int .i64 x7, .slice xa xn xc, .slice xd xm xe, .int .i64 x10, .int .i64 x11, .int .i64 x12, .int .i64 x13], .agg #[.int .i64 y0, .int .i64 y1, .int .i64 y2, .int .i64 y3, .int .i64 y4, .bool y5, .int .i64 y6, .int .i64 y7, .slice ya yn yc, .slice yd ym ye, .int .i64 y10, .int .i64 y11, .int .i64 y12, .int .i64 y13]] w' fun e w'' => e = .returned (.bool Q) ∧ Below w'.heap.size w' w'') := Lib.hid (fun w' hb => by
    have := same_any x0 x1 x2 x3 x4 x6 x7 x10 x11 x12 x13 x5 xa xd xn xc xm xe xF xG y0 y1 y2 y3 y4 y6 y7 y10 y11 y12 y13 y5 ya yd yn yc ym ye yF yG w' (hx1.below hb) (hx2.below hb) (hy1.below hb) (hy2.below hb)
    rw [hQ] at this
    exact this)
  have EQ : Hid (∀ (a1 a2 b1 b2 : Option Addr) (c1 c2 d1 d2 : Nat) w', IntsAt w' .i64 a1 xn xF → IntsAt w' .i64 a2 xm xG → IntsAt w' .i64 b1 yn yF → IntsAt w' .i64 b2 ym yG → Calls Try.prog 50 #[.agg #[.int .i64 x0, .int .i64 x1, .int .i64 x2, .int .i64 x3, .int .i64 x4, .bool x5, .int .i64 x6, .int .i64 x7, .slice a1 xn c1, .slice a2 xm c2, .int .i64 x10, .int .i64 x11, .int .i64 x12, .int .i64 x13], .agg #[.int .i64 y0, .int .i64 y1, .int .i64 y2, .int .i64 y3, .int .i64 y4, .bool y5, .int .i64 y6, .int .i64 y7, .slice b1 yn d1, .slice b2 ym d2, .int .i64 y10, .int .i64 y11, .int .i64 y12, .int .i64 y13]] w' fun e w'' => e = .returned (.bool Q) ∧ Below w'.heap.size w' w'') := Lib.hid (fun a1 a2 b1 b2 c1 c2 d1 d2 w' i1 i2 i3 i4 => by
    rw [← hQ]
    exact equal_any x0 x1 x2 x3 x4 x6 x7 x10 x11 x12 x13 x5 a1 a2 xn c1 xm c2 xF xG y0 y1 y2 y3 y4 y6 y7 y10 y11 y12 y13 y5 b1 b2 yn d1 ym d2 yF yG w' i1 i2 i3 i4)
  have EX : Hid (∀ (a1 a2 b1 b2 : Option Addr) (c1 c2 d1 d2 : Nat) w', IntsAt w' .i64 a1 xn xF → IntsAt w' .i64 a2 xm xG → IntsAt w' .i64 b1 xn xF → IntsAt w' .i64 b2 xm xG → Calls Try.prog 50 #[.agg #[.int .i64 x0, .int .i64 x1, .int .i64 x2, .int .i64 x3, .int .i64 x4, .bool x5, .int .i64 x6, .int .i64 x7, .slice a1 xn c1, .slice a2 xm c2, .int .i64 x10, .int .i64 x11, .int .i64 x12, .int .i64 x13], .agg #[.int .i64 x0, .int .i64 x1, .int .i64 x2, .int .i64 x3, .int .i64 x4, .bool x5, .int .i64 x6, .int .i64 x7, .slice b1 xn d1, .slice b2 xm d2, .int .i64 x10, .int .i64 x11, .int .i64 x12, .int .i64 x13]] w' fun e w'' => e = .returned (.bool true) ∧ Below w'.heap.size w' w'') := Lib.hid (fun a1 a2 b1 b2 c1 c2 d1 d2 w' i1 i2 i3 i4 => by
    have := equal_any x0 x1 x2 x3 x4 x6 x7 x10 x11 x12 x13 x5 a1 a2 xn c1 xm c2 xF xG x0 x1 x2 x3 x4 x6 x7 x10 x11 x12 x13 x5 b1 b2 xn d1 xm d2 xF xG w' i1 i2 i3 i4
    rw [eqR_self x0 x1 x2 x3 x4 x6 x7 x10 x11 x12 x13 x5 xa xd xn xc xm xe xF xG] at this
    exact this)
  have CL : Hid (∀ (a1 a2 : Option Addr) (c1 c2 : Nat) w', IntsAt w' .i64 a1 xn xF → IntsAt w' .i64 a2 xm xG → (a1 = none → xn = 0) → (a2 = none → xm = 0) → Calls Try.prog 53 #[.agg #[.int .i64 x0, .int .i64 x1, .int .i64 x2, .int .i64 x3, .int .i64 x4, .bool x5, .int .i64 x6, .int .i64 x7, .slice a1 xn c1, .slice a2 xm c2, .int .i64 x10, .int .i64 x11, .int .i64 x12, .int .i64 x13]] w' fun e w'' => clonePost x0 x1 x2 x3 x4 x6 x7 x10 x11 x12 x13 x5 xa xd xn xc xm xe xF xG w' e w'') := Lib.hid (fun a1 a2 c1 c2 w' i1 i2 i3 i4 => rclone_any x0 x1 x2 x3 x4 x6 x7 x10 x11 x12 x13 x5 a1 a2 xn c1 xm c2 xF xG w' i1 i2 i3 i4 hxn.1 hxn.2)
  replace hQ := Lib.hid hQ
  have hA : ((w.alloc (.cells #[.int .i64 x0, .int .i64 x1, .int .i64 x2, .int .i64 x3, .int .i64 x4, .bool x5, .int .i64 x6, .int .i64 x7, .slice xa xn xc, .slice xd xm xe, .int .i64 x10, .int .i64 x11, .int .i64 x12, .int .i64 x13] 73)).alloc (.cells #[.int .i64 y0, .int .i64 y1, .int .i64 y2, .int .i64 y3, .int .i64 y4, .bool y5, .int .i64 y6, .int .i64 y7, .slice ya yn yc, .slice yd ym ye, .int .i64 y10, .int .i64 y11, .int .i64 y12, .int .i64 y13] 73)).heap[w.heap.size + 1]? = some (.cells #[.int .i64 y0, .int .i64 y1, .int .i64 y2, .int .i64 y3, .int .i64 y4, .bool y5, .int .i64 y6, .int .i64 y7, .slice ya yn yc, .slice yd ym ye, .int .i64 y10, .int .i64 y11, .int .i64 y12, .int .i64 y13] 73 (0, 0)) := alloc_at (by simp)
  have hAx : ((w.alloc (.cells #[.int .i64 x0, .int .i64 x1, .int .i64 x2, .int .i64 x3, .int .i64 x4, .bool x5, .int .i64 x6, .int .i64 x7, .slice xa xn xc, .slice xd xm xe, .int .i64 x10, .int .i64 x11, .int .i64 x12, .int .i64 x13] 73)).alloc (.cells #[.int .i64 y0, .int .i64 y1, .int .i64 y2, .int .i64 y3, .int .i64 y4, .bool y5, .int .i64 y6, .int .i64 y7, .slice ya yn yc, .slice yd ym ye, .int .i64 y10, .int .i64 y11, .int .i64 y12, .int .i64 y13] 73)).heap[w.heap.size]? = some (.cells #[.int .i64 x0, .int .i64 x1, .int .i64 x2, .int .i64 x3, .int .i64 x4, .bool x5, .int .i64 x6, .int .i64 x7, .slice xa xn xc, .slice xd xm xe, .int .i64 x10, .int .i64 x11, .int .i64 x12, .int .i64 x13] 73 (0, 0)) := alloc_keep (heap_alloc_new _ _)
  have hbw := below_alloc2 w (.cells #[.int .i64 x0, .int .i64 x1, .int .i64 x2, .int .i64 x3, .int .i64 x4, .bool x5, .int .i64 x6, .int .i64 x7, .slice xa xn xc, .slice xd xm xe, .int .i64 x10, .int .i64 x11, .int .i64 x12, .int .i64 x13] 73) (.cells #[.int .i64 y0, .int .i64 y1, .int .i64 y2, .int .i64 y3, .int .i64 y4, .bool y5, .int .i64 y6, .int .i64 y7, .slice ya yn yc, .slice yd ym ye, .int .i64 y10, .int .i64 y11, .int .i64 y12, .int .i64 y13] 73)
  have hsz : ((w.alloc (.cells #[.int .i64 x0, .int .i64 x1, .int .i64 x2, .int .i64 x3, .int .i64 x4, .bool x5, .int .i64 x6, .int .i64 x7, .slice xa xn xc, .slice xd xm xe, .int .i64 x10, .int .i64 x11, .int .i64 x12, .int .i64 x13] 73)).alloc (.cells #[.int .i64 y0, .int .i64 y1, .int .i64 y2, .int .i64 y3, .int .i64 y4, .bool y5, .int .i64 y6, .int .i64 y7, .slice ya yn yc, .slice yd ym ye, .int .i64 y10, .int .i64 y11, .int .i64 y12, .int .i64 y13] 73)).heap.size = w.heap.size + 2 := by simp
  replace hA := Lib.hid hA
  replace hAx := Lib.hid hAx
  replace hbw := Lib.hid hbw
  replace hsz := Lib.hid hsz
  clear hf hg hx1 hx2 hy1 hy2 hxn hyn
  go_enter Try.func12, Try.ntmps12
  go_wp2_with fail
  refine (HN.out _).mono ?_
  rintro e w1 ⟨rfl, rfl⟩
  go_wp2_with fail
  generalize ((w.alloc (.cells #[.int .i64 x0, .int .i64 x1, .int .i64 x2, .int .i64 x3, .int .i64 x4, .bool x5, .int .i64 x6, .int .i64 x7, .slice xa xn xc, .slice xd xm xe, .int .i64 x10, .int .i64 x11, .int .i64 x12, .int .i64 x13] 73)).alloc (.cells #[.int .i64 y0, .int .i64 y1, .int .i64 y2, .int .i64 y3, .int .i64 y4, .bool y5, .int .i64 y6, .int .i64 y7, .slice ya yn yc, .slice yd ym ye, .int .i64 y10, .int .i64 y11, .int .i64 y12, .int .i64 y13] 73)) = W at *
  refine (HFx.out _).mono ?_
  rintro e w1 ⟨rfl, hb1⟩
  have hs := hsz.out
  have hA1 := (hb1.block (w.heap.size + 1) (by omega)).trans hA.out
  obtain ⟨yk0, yk1, yk2, yk3, yk4, yk5, yk6, yk7, yk8, yk9, yk10, yk11, yk12, yk13⟩ := box_cells y0 y1 y2 y3 y4 y6 y7 y10 y11 y12 y13 y5 ya yd yn yc ym ye yF yG hA1
  have hAx1 := Lib.hid ((hb1.block w.heap.size (by omega)).trans hAx.out)
  have hb2 := Lib.hid (hbw.out.trans (below_lee hb1 (by omega)))
  have hs1 := hb1.size
  clear hb1
  replace hA1 := Lib.hid hA1
  go_wp2_with fail
  clear yk0 yk1 yk2 yk3 yk4 yk5 yk6 yk7 yk8 yk9 yk10 yk11 yk12 yk13
  refine (HFy.out _).mono ?_
  rintro e w2 ⟨rfl, hb3⟩
  have hb4 := Lib.hid (hb2.out.trans (below_lee hb3 (by omega)))
  have hA2 := (hb3.block (w.heap.size + 1) (by omega)).trans hA1.out
  have hAx2 := (hb3.block w.heap.size (by omega)).trans hAx1.out
  have KS : Hid (∀ w', Below w2.heap.size w2 w' → (w'.cell? ⟨w.heap.size, 0, none⟩ = some (.int .i64 x0) ∧ w'.cell? ⟨w.heap.size, 1, none⟩ = some (.int .i64 x1) ∧ w'.cell? ⟨w.heap.size, 2, none⟩ = some (.int .i64 x2) ∧ w'.cell? ⟨w.heap.size, 3, none⟩ = some (.int .i64 x3) ∧ w'.cell? ⟨w.heap.size, 4, none⟩ = some (.int .i64 x4) ∧ w'.cell? ⟨w.heap.size, 5, none⟩ = some (.bool x5) ∧ w'.cell? ⟨w.heap.size, 6, none⟩ = some (.int .i64 x6) ∧ w'.cell? ⟨w.heap.size, 7, none⟩ = some (.int .i64 x7) ∧ w'.cell? ⟨w.heap.size, 8, none⟩ = some (.slice xa xn xc) ∧ w'.cell? ⟨w.heap.size, 9, none⟩ = some (.slice xd xm xe) ∧ w'.cell? ⟨w.heap.size, 10, none⟩ = some (.int .i64 x10) ∧ w'.cell? ⟨w.heap.size, 11, none⟩ = some (.int .i64 x11) ∧ w'.cell? ⟨w.heap.size, 12, none⟩ = some (.int .i64 x12) ∧ w'.cell? ⟨w.heap.size, 13, none⟩ = some (.int .i64 x13)) ∧ (w'.cell? ⟨(w.heap.size + 1), 0, none⟩ = some (.int .i64 y0) ∧ w'.cell? ⟨(w.heap.size + 1), 1, none⟩ = some (.int .i64 y1) ∧ w'.cell? ⟨(w.heap.size + 1), 2, none⟩ = some (.int .i64 y2) ∧ w'.cell? ⟨(w.heap.size + 1), 3, none⟩ = some (.int .i64 y3) ∧ w'.cell? ⟨(w.heap.size + 1), 4, none⟩ = some (.int .i64 y4) ∧ w'.cell? ⟨(w.heap.size + 1), 5, none⟩ = some (.bool y5) ∧ w'.cell? ⟨(w.heap.size + 1), 6, none⟩ = some (.int .i64 y6) ∧ w'.cell? ⟨(w.heap.size + 1), 7, none⟩ = some (.int .i64 y7) ∧ w'.cell? ⟨(w.heap.size + 1), 8, none⟩ = some (.slice ya yn yc) ∧ w'.cell? ⟨(w.heap.size + 1), 9, none⟩ = some (.slice yd ym ye) ∧ w'.cell? ⟨(w.heap.size + 1), 10, none⟩ = some (.int .i64 y10) ∧ w'.cell? ⟨(w.heap.size + 1), 11, none⟩ = some (.int .i64 y11) ∧ w'.cell? ⟨(w.heap.size + 1), 12, none⟩ = some (.int .i64 y12) ∧ w'.cell? ⟨(w.heap.size + 1), 13, none⟩ = some (.int .i64 y13))) := Lib.hid (fun w' hq => ⟨box_cells x0 x1 x2 x3 x4 x6 x7 x10 x11 x12 x13 x5 xa xd xn xc xm xe xF xG ((hq.block w.heap.size (by have := hb3.size; omega)).trans hAx2), box_cells y0 y1 y2 y3 y4 y6 y7 y10 y11 y12 y13 y5 ya yd yn yc ym ye yF yG ((hq.block (w.heap.size + 1) (by have := hb3.size; omega)).trans hA2)⟩)
  clear hb3 hA2 hAx2 hA1 hAx1 hA hAx hb2 hbw hsz hs hs1 W
  go_wp2_with fail
  have hb := Lib.hid (Below.drew (Below.refl w2.heap.size w2))
  go_region_held3 (fun w' => (w'.cell? ⟨w.heap.size, 0, none⟩ = some (.int .i64 x0) ∧ w'.cell? ⟨w.heap.size, 1, none⟩ = some (.int .i64 x1) ∧ w'.cell? ⟨w.heap.size, 2, none⟩ = some (.int .i64 x2) ∧ w'.cell? ⟨w.heap.size, 3, none⟩ = some (.int .i64 x3) ∧ w'.cell? ⟨w.heap.size, 4, none⟩ = some (.int .i64 x4) ∧ w'.cell? ⟨w.heap.size, 5, none⟩ = some (.bool x5) ∧ w'.cell? ⟨w.heap.size, 6, none⟩ = some (.int .i64 x6) ∧ w'.cell? ⟨w.heap.size, 7, none⟩ = some (.int .i64 x7) ∧ w'.cell? ⟨w.heap.size, 8, none⟩ = some (.slice xa xn xc) ∧ w'.cell? ⟨w.heap.size, 9, none⟩ = some (.slice xd xm xe) ∧ w'.cell? ⟨w.heap.size, 10, none⟩ = some (.int .i64 x10) ∧ w'.cell? ⟨w.heap.size, 11, none⟩ = some (.int .i64 x11) ∧ w'.cell? ⟨w.heap.size, 12, none⟩ = some (.int .i64 x12) ∧ w'.cell? ⟨w.heap.size, 13, none⟩ = some (.int .i64 x13)) ∧ (w'.cell? ⟨(w.heap.size + 1), 0, none⟩ = some (.int .i64 y0) ∧ w'.cell? ⟨(w.heap.size + 1), 1, none⟩ = some (.int .i64 y1) ∧ w'.cell? ⟨(w.heap.size + 1), 2, none⟩ = some (.int .i64 y2) ∧ w'.cell? ⟨(w.heap.size + 1), 3, none⟩ = some (.int .i64 y3) ∧ w'.cell? ⟨(w.heap.size + 1), 4, none⟩ = some (.int .i64 y4) ∧ w'.cell? ⟨(w.heap.size + 1), 5, none⟩ = some (.bool y5) ∧ w'.cell? ⟨(w.heap.size + 1), 6, none⟩ = some (.int .i64 y6) ∧ w'.cell? ⟨(w.heap.size + 1), 7, none⟩ = some (.int .i64 y7) ∧ w'.cell? ⟨(w.heap.size + 1), 8, none⟩ = some (.slice ya yn yc) ∧ w'.cell? ⟨(w.heap.size + 1), 9, none⟩ = some (.slice yd ym ye) ∧ w'.cell? ⟨(w.heap.size + 1), 10, none⟩ = some (.int .i64 y10) ∧ w'.cell? ⟨(w.heap.size + 1), 11, none⟩ = some (.int .i64 y11) ∧ w'.cell? ⟨(w.heap.size + 1), 12, none⟩ = some (.int .i64 y12) ∧ w'.cell? ⟨(w.heap.size + 1), 13, none⟩ = some (.int .i64 y13))) (first | exact KS.out _ hb.out)
    (first
      | (go_at_call 51; (with_reducible refine (TX.out _ (hb4.out.trans (below_lee hb.out hb4.out.size))).mono ?_); rintro e w3 ⟨a1, c1, a2, c2, rfl, i1, i2, n1, n2, hk⟩; (try (replace j1 := Lib.hid (j1.out.below hk); replace j2 := Lib.hid (j2.out.below hk))); (try (replace z1 := Lib.hid (z1.out.below hk); replace z2 := Lib.hid (z2.out.below hk))); replace i1 := Lib.hid i1; replace i2 := Lib.hid i2; replace n1 := Lib.hid n1; replace n2 := Lib.hid n2; replace hb := Lib.hid (hb.out.trans (below_lee hk hb.out.size)); clear hk)
      | (go_at_call 51; (with_reducible refine (TY.out _ (hb4.out.trans (below_lee hb.out hb4.out.size))).mono ?_); rintro e w3 ⟨b1, d1, b2, d2, rfl, j1, j2, m1, m2, hk⟩; replace i1 := Lib.hid (i1.out.below hk); replace i2 := Lib.hid (i2.out.below hk); replace j1 := Lib.hid j1; replace j2 := Lib.hid j2; replace m1 := Lib.hid m1; replace m2 := Lib.hid m2; replace hb := Lib.hid (hb.out.trans (below_lee hk hb.out.size)); clear hk)
      | (go_at_call 52; (with_reducible refine (SM.out _ (hb4.out.trans (below_lee hb.out hb4.out.size))).mono ?_); rintro e w3 ⟨rfl, hk⟩; replace hb := Lib.hid (hb.out.trans (below_lee hk hb.out.size)); clear hk)
      | (go_at_call 50; (with_reducible refine (EQ.out _ _ _ _ _ _ _ _ _ i1.out i2.out j1.out j2.out).mono ?_); rintro e w3 ⟨rfl, hk⟩; replace hb := Lib.hid (hb.out.trans (below_lee hk hb.out.size)); clear hk)
      | (go_at_call 53; (with_reducible refine (CL.out _ _ _ _ _ i1.out i2.out n1.out n2.out).mono ?_); rintro e w3 ⟨y1, e1, y2, e2, rfl, z1, z2, _, _, hk⟩; replace z1 := Lib.hid z1; replace z2 := Lib.hid z2; replace hb := Lib.hid (hb.out.trans (below_lee hk hb.out.size)); clear hk)
      | (go_at_call 50; (with_reducible refine (EX.out _ _ _ _ _ _ _ _ _ z1.out z2.out i1.out i2.out).mono ?_); rintro e w3 ⟨rfl, hk⟩; replace hb := Lib.hid (hb.out.trans (below_lee hk hb.out.size)); clear hk))
  all_goals
    go_wp2_with fail
    go_ret
    exact ⟨rfl, hb4.out.trans (below_lee hb.out hb4.out.size)⟩

theorem rmaEqual_walk (x0 x1 x2 x3 x4 x6 x7 x10 x11 x12 x13 : Int) (x5 : Bool) (xa xd : Option Addr) (xn xc xm xe : Nat) (xF xG : Nat → Int) (y0 y1 y2 y3 y4 y6 y7 y10 y11 y12 y13 : Int) (y5 : Bool) (ya yd : Option Addr) (yn yc ym ye : Nat) (yF yG : Nat → Int) (w : World) (hx1 : IntsAt w .i64 xa xn xF) (hx2 : IntsAt w .i64 xd xm xG) (hy1 : IntsAt w .i64 ya yn yF) (hy2 : IntsAt w .i64 yd ym yG) (hxa : xa = none → xn = 0 ∧ xc = 0) (hxd : xd = none → xm = 0 ∧ xe = 0) (hya : ya = none → yn = 0 ∧ yc = 0) (hyd : yd = none → ym = 0 ∧ ye = 0) : Calls Try.prog 12 #[.agg #[.int .i64 x0, .int .i64 x1, .int .i64 x2, .int .i64 x3, .int .i64 x4, .bool x5, .int .i64 x6, .int .i64 x7, .slice xa xn xc, .slice xd xm xe, .int .i64 x10, .int .i64 x11, .int .i64 x12, .int .i64 x13], .agg #[.int .i64 y0, .int .i64 y1, .int .i64 y2, .int .i64 y3, .int .i64 y4, .bool y5, .int .i64 y6, .int .i64 y7, .slice ya yn yc, .slice yd ym ye, .int .i64 y10, .int .i64 y11, .int .i64 y12, .int .i64 y13]] w fun e w' => e = .returned (.bool true) ∧ Below w.heap.size w w' := by
  cases hf : fewB xn xm
  · exact rmaEqual_many x0 x1 x2 x3 x4 x6 x7 x10 x11 x12 x13 x5 xa xd xn xc xm xe xF xG y0 y1 y2 y3 y4 y6 y7 y10 y11 y12 y13 y5 ya yd yn yc ym ye yF yG w hx1 hx2 hy1 hy2 hxa hxd hya hyd hf
  · cases hg : fewB yn ym
    · exact rmaEqual_many2 x0 x1 x2 x3 x4 x6 x7 x10 x11 x12 x13 x5 xa xd xn xc xm xe xF xG y0 y1 y2 y3 y4 y6 y7 y10 y11 y12 y13 y5 ya yd yn yc ym ye yF yG w hx1 hx2 hy1 hy2 hxa hxd hya hyd hf hg
    · exact rmaEqual_few x0 x1 x2 x3 x4 x6 x7 x10 x11 x12 x13 x5 xa xd xn xc xm xe xF xG y0 y1 y2 y3 y4 y6 y7 y10 y11 y12 y13 y5 ya yd yn yc ym ye yF yG w hx1 hx2 hy1 hy2 hxa hxd hya hyd hf hg

end Go.Proofs.Ytnkgbigjpihfeaa.Ma
