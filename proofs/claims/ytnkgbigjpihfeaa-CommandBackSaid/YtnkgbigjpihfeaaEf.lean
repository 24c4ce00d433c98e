/- Any bytes are a formed command's, just those, or refused: the walk of CommandReads. -/
import Derived.Test.YtnkgbigjpihfeaaEe
import Derived.Test.YtnkgbigjpihfeaaDg
set_option linter.unusedVariables false
set_option linter.unusedSimpArgs false
namespace Go.Proofs.Ytnkgbigjpihfeaa.Kd
open Go.RowKit Go.Proofs.Ytnkgbigjpihfeaa.Lib
open Go.Proofs.Ytnkgbigjpihfeaa.Ma (alloc_keep alloc_at cbox_cells setRow_h below_lee)

theorem info53 : (Try.prog.info? 53).map (·.size) = some 12 := by kernel_rfl

set_option maxRecDepth 100000 in
theorem ours15 (xk xo xr xw xm xu xg xd xq : Int) (xb xy : Bool) (xa : Option Addr) (xn xc : Nat) (w : World) : Calls Try.prog 47 #[.agg #[.int .i64 xk, .int .i64 xo, .slice xa xn xc, .int .i64 xr, .int .i64 xw, .bool xb, .int .i64 xm, .int .i64 xu, .int .i64 xg, .int .i64 xd, .int .i64 xq, .bool xy]] w fun e w' => e = .returned (.agg #[.int .i64 xk, .int .i64 xo, .slice xa xn xc, .int .i64 xr, .int .i64 xw, .bool xb, .int .i64 xm, .int .i64 xu, .int .i64 xg, .int .i64 xd, .int .i64 xq, .bool xy]) ∧ Below w.heap.size w w' := by
  go_enter Try.func47, Try.ntmps47
  go_wp2_with fail
  refine bodyPost_ret (results_cell_row (p := 2) (ty := 53) rfl _ _ (w.heap.size + 1) 53 #[.int .i64 xk, .int .i64 xo, .slice xa xn xc, .int .i64 xr, .int .i64 xw, .bool xb, .int .i64 xm, .int .i64 xu, .int .i64 xg, .int .i64 xd, .int .i64 xq, .bool xy] (0, 0) _ (by rfl) ?_ Try.underlying53 rfl info53) rfl ⟨rfl, ?_⟩
  · exact alloc_at (by simp)
  · exact ((Below.refl _ _).alloc (Nat.le_refl _) _).alloc (by simp) _

set_option maxRecDepth 100000 in
set_option maxHeartbeats 3200000 in
theorem commandReads_walk (a : Option Addr) (n c : Nat) (F : Nat → Int) (W : World) (h : IntsAt W .u8 a n F) (ha : a = none → n = 0) (hF : ∀ j, j < n → 0 ≤ F j ∧ F j < 256) :
    Calls Try.prog 11 #[.slice a n c] W fun e w' => e = .returned (.bool true) ∧ Below W.heap.size W w' := by
  have HN : Hid (∀ w', Calls Try.prog 36 #[] w' fun e w'' => e = .returned (.bool true) ∧ Below w'.heap.size w' w'') := Lib.hid awake15
  have hbig := h.1
  have HX : Hid (∀ w', Below W.heap.size W w' → IntsAt w' .u8 a n F) := Lib.hid (fun w' hb => h.below hb)
  by_cases hn : 1000 < n
  · have hn' : (1000 : Int) < n := by omega
    clear h ha hF
    go_enter Try.func11, Try.ntmps11
    go_wp2_with fail
    refine (HN.out _).mono ?_
    rintro e w1 ⟨rfl, b1⟩
    replace b1 := Lib.hid b1
    go_wp2_with fail
    refine (HN.out _).mono ?_
    rintro e w2 ⟨rfl, b2⟩
    replace b2 := Lib.hid b2
    go_wp2_with fail
    go_ret
    exact ⟨rfl, b1.out.trans (below_lee b2.out b1.out.size)⟩
  · have hn' : ¬ (1000 : Int) < n := by omega
    have HD : Hid (∀ w', Below W.heap.size W w' → Calls Try.prog 46 #[.slice a n c] w' fun e w'' => dcPost (lof n F) w' e w'') := Lib.hid (fun w' hb => decode_any (h.below hb) ha (by omega) hF)
    have hll : Hid ((lof n F).length = n) := Lib.hid (lof_len n F)
    have hgt : Hid (∀ j, j < n → F j = gtD (lof n F) j) := Lib.hid (fun j hj => (gtD_lof hj).symm)
    generalize lof n F = L at *
    clear h ha hF
    go_enter Try.func11, Try.ntmps11
    go_wp2_with fail
    refine (HN.out _).mono ?_
    rintro e w1 ⟨rfl, b1⟩
    replace b1 := Lib.hid b1
    have HD1 := Lib.hid (HD.out _ b1.out)
    go_wp2_with fail
    refine HD1.out.mono ?_
    rintro e w2 ⟨b2, hdc⟩
    have hb2 := Lib.hid (b1.out.trans (below_lee b2 b1.out.size))
    clear b2
    rcases hdc with ⟨xk, xo, xr, xw, xm, xu, xg, xd, xq, xb, xy, xa, xn, xc, xF, rfl, hx, hn255, hF, hL, _⟩ | ⟨rfl, _⟩
    · have hB3 : (w2.alloc (.cells #[.int .i64 xk, .int .i64 xo, .slice xa xn xc, .int .i64 xr, .int .i64 xw, .bool xb, .int .i64 xm, .int .i64 xu, .int .i64 xg, .int .i64 xd, .int .i64 xq, .bool xy] 55)).heap[w2.heap.size]? = some (.cells #[.int .i64 xk, .int .i64 xo, .slice xa xn xc, .int .i64 xr, .int .i64 xw, .bool xb, .int .i64 xm, .int .i64 xu, .int .i64 xg, .int .i64 xd, .int .i64 xq, .bool xy] 55 (0, 0)) := heap_alloc_new _ _
      have hb3 : Below W.heap.size W (w2.alloc (.cells #[.int .i64 xk, .int .i64 xo, .slice xa xn xc, .int .i64 xr, .int .i64 xw, .bool xb, .int .i64 xm, .int .i64 xu, .int .i64 xg, .int .i64 xd, .int .i64 xq, .bool xy] 55)) := hb2.out.alloc hb2.out.size _
      have hx3 := Ma.ints_alloc hx (.cells #[.int .i64 xk, .int .i64 xo, .slice xa xn xc, .int .i64 xr, .int .i64 xw, .bool xb, .int .i64 xm, .int .i64 xu, .int .i64 xg, .int .i64 xd, .int .i64 xq, .bool xy] 55)
      have hl3 : (w2.alloc (.cells #[.int .i64 xk, .int .i64 xo, .slice xa xn xc, .int .i64 xr, .int .i64 xw, .bool xb, .int .i64 xm, .int .i64 xu, .int .i64 xg, .int .i64 xd, .int .i64 xq, .bool xy] 55)).heap.size = w2.heap.size + 1 := by simp
      have HO : Hid (∀ w', Calls Try.prog 47 #[.agg #[.int .i64 xk, .int .i64 xo, .slice xa xn xc, .int .i64 xr, .int .i64 xw, .bool xb, .int .i64 xm, .int .i64 xu, .int .i64 xg, .int .i64 xd, .int .i64 xq, .bool xy]] w' fun e w'' => e = .returned (.agg #[.int .i64 xk, .int .i64 xo, .slice xa xn xc, .int .i64 xr, .int .i64 xw, .bool xb, .int .i64 xm, .int .i64 xu, .int .i64 xg, .int .i64 xd, .int .i64 xq, .bool xy]) ∧ Below w'.heap.size w' w'') := Lib.hid (ours15 xk xo xr xw xm xu xg xd xq xb xy xa xn xc)
      have HRF : Hid (∀ w', IntsAt w' .i64 xa xn xF → Calls Try.prog 39 #[.agg #[.int .i64 xk, .int .i64 xo, .slice xa xn xc, .int .i64 xr, .int .i64 xw, .bool xb, .int .i64 xm, .int .i64 xu, .int .i64 xg, .int .i64 xd, .int .i64 xq, .bool xy]] w' fun e w'' => e = .returned (.bool true) ∧ Below w'.heap.size w' w'') := Lib.hid (fun w' hx => by
        have := refFormed xk xo xr xw xm xu xg xd xq xb xy xa xn xc xF w' hx
        rw [hF] at this
        exact this)
      have HBY : Hid (∀ w', IntsAt w' .i64 xa xn xF → Calls Try.prog 41 #[.agg #[.int .i64 xk, .int .i64 xo, .slice xa xn xc, .int .i64 xr, .int .i64 xw, .bool xb, .int .i64 xm, .int .i64 xu, .int .i64 xg, .int .i64 xd, .int .i64 xq, .bool xy]] w' fun e w'' => by41 L w' e w'') := Lib.hid (fun w' hx => by
        rw [hL]
        exact bytes41_any xk xo xr xw xm xu xg xd xq xb xy xa xn xc xF w' hx hF)
      replace hF := Lib.hid hF
      replace hL := Lib.hid hL
      obtain ⟨k0, k1, k2, k3, k4, k5, k6, k7, k8, k9, k10, k11⟩ := cbox_cells xk xo xr xw xm xu xg xd xq xb xy xa xn xc xF hB3
      replace hB3 := Lib.hid hB3
      replace hb3 := Lib.hid hb3
      replace hx3 := Lib.hid hx3
      replace hl3 := Lib.hid hl3
      clear hx
      go_upto_region 6 with fail
      generalize w2.alloc (.cells #[.int .i64 xk, .int .i64 xo, .slice xa xn xc, .int .i64 xr, .int .i64 xw, .bool xb, .int .i64 xm, .int .i64 xu, .int .i64 xg, .int .i64 xd, .int .i64 xq, .bool xy] 55) = w3 at *
      have hPl : w2.heap.size < w3.heap.size := by rw [hl3.out]; omega
      generalize w2.heap.size = P at *
      clear hl3
      go_wp2_with fail
      refine (HO.out _).mono ?_
      rintro e w4 ⟨rfl, b4⟩
      have hB4 := Lib.hid ((b4.block P hPl).trans hB3.out)
      have hb4 := Lib.hid (hb3.out.trans (below_lee b4 hb3.out.size))
      have hx4 := hx3.out.below b4
      have hPl4 := Nat.lt_of_lt_of_le hPl b4.size
      clear k0 k1 k2 k3 k4 k5 k6 k7 k8 k9 k10 k11 b4
      obtain ⟨k0, k1, k2, k3, k4, k5, k6, k7, k8, k9, k10, k11⟩ := cbox_cells xk xo xr xw xm xu xg xd xq xb xy xa xn xc xF hB4.out
      have HR4 := Lib.hid (HRF.out _ hx4)
      replace hx4 := Lib.hid hx4
      go_wp2_with fail
      refine HR4.out.mono ?_
      rintro e w5 ⟨rfl, b5⟩
      have hB5 := Lib.hid ((b5.block P hPl4).trans hB4.out)
      have hb5 := Lib.hid (hb4.out.trans (below_lee b5 hb4.out.size))
      have hx5 := Lib.hid (hx4.out.below b5)
      have hPl5 := Nat.lt_of_lt_of_le hPl4 b5.size
      clear k0 k1 k2 k3 k4 k5 k6 k7 k8 k9 k10 k11 b5
      obtain ⟨k0, k1, k2, k3, k4, k5, k6, k7, k8, k9, k10, k11⟩ := cbox_cells xk xo xr xw xm xu xg xd xq xb xy xa xn xc xF hB5.out
      go_wp2_with fail
      refine (HO.out _).mono ?_
      rintro e w6 ⟨rfl, b6⟩
      have hb6 := Lib.hid (hb5.out.trans (below_lee b6 hb5.out.size))
      have HB6 := Lib.hid (HBY.out _ (hx5.out.below b6))
      clear k0 k1 k2 k3 k4 k5 k6 k7 k8 k9 k10 k11 b6
      go_wp2_with fail
      refine HB6.out.mono ?_
      rintro e w7 ⟨v7, rfl, o7, b7⟩
      have hb7 := Lib.hid (hb6.out.trans (below_lee b7 hb6.out.size))
      have hlL := hll.out
      obtain ⟨a7, c7, rfl, i7, _⟩ := own_at o7 (by omega)
      have i8 := ints_congr (HX.out _ hb7.out) hgt.out
      rw [← hlL] at i8
      have HQ := bytes_same (c := c7) (d := c) i7 i8
      rw [hlL] at HQ
      replace HQ := Lib.hid HQ
      rw [hlL]
      clear o7 i7 i8 b7 hlL
      go_wp2_with fail
      refine HQ.out.mono ?_
      rintro e w8 ⟨rfl, q8, rfl⟩
      go_wp2_with fail
      go_ret
      exact ⟨rfl, hb7.out.trans (below_dn _ _ _)⟩
    · go_wp2_with fail
      go_ret
      exact ⟨rfl, hb2.out.alloc hb2.out.size _⟩

end Go.Proofs.Ytnkgbigjpihfeaa.Kd
