/- command.Equal at every two commands. -/
import Derived.Test.YtnkgbigjpihfeaaIb
import Derived.Test.YtnkgbigjpihfeaaJb
set_option linter.unusedVariables false
set_option linter.unusedSimpArgs false
namespace Go.Proofs.Ytnkgbigjpihfeaa.Ma
open Go.RowKit Go.Proofs.Ytnkgbigjpihfeaa.Lib

set_option maxRecDepth 100000 in
set_option maxHeartbeats 6400000 in
theorem equal15 (xk xo xr xw xm xu xg xd xq : Int) (xb xy : Bool) (xa : Option Addr) (xn xc : Nat) (xF : Nat → Int) (yk yo yr yw ym yu yg yd yq : Int) (yb yy : Bool) (ya : Option Addr) (yn yc : Nat) (yF : Nat → Int) (w : World) (hx : IntsAt w .i64 xa xn xF) (hy : IntsAt w .i64 ya yn yF) :
    Calls Try.prog 42 #[.agg #[.int .i64 xk, .int .i64 xo, .slice xa xn xc, .int .i64 xr, .int .i64 xw, .bool xb, .int .i64 xm, .int .i64 xu, .int .i64 xg, .int .i64 xd, .int .i64 xq, .bool xy], .agg #[.int .i64 yk, .int .i64 yo, .slice ya yn yc, .int .i64 yr, .int .i64 yw, .bool yb, .int .i64 ym, .int .i64 yu, .int .i64 yg, .int .i64 yd, .int .i64 yq, .bool yy]] w fun e w' => e = .returned (.bool (eqC xk xo xr xw xm xu xg xd xq xb xy xa xn xc xF yk yo yr yw ym yu yg yd yq yb yy ya yn yc yF)) ∧ Below w.heap.size w w' := by
  have C1 : Hid (∀ w', Below w.heap.size w w' → Calls Try.prog 73 #[.slice xa xn xc, .slice ya yn yc] w' fun e w'' => e = .returned (.bool (sameB xn xF yn yF)) ∧ ∃ q, w'' = w'.drewN q) := Lib.hid (fun w' hb => eqs_any w' (hx.below hb) (hy.below hb))
  unfold eqC
  generalize sameB xn xF yn yF = S at *
  generalize hR : ((xk == yk) && (xo == yo) && S && (xr == yr) && (xw == yw) && (xb == yb) && (xm == ym) && (xu == yu) && (xg == yg) && (xd == yd) && (xq == yq) && (xy == yy)) = R
  replace hR := Lib.hid hR
  go_enter Try.func42, Try.ntmps42
  go_upto_region 1 with fail
  generalize hw3 : World.alloc (World.alloc w _) _ = W
  have hX : W.heap[w.heap.size]? = some (.cells #[.int .i64 xk, .int .i64 xo, .slice xa xn xc, .int .i64 xr, .int .i64 xw, .bool xb, .int .i64 xm, .int .i64 xu, .int .i64 xg, .int .i64 xd, .int .i64 xq, .bool xy] 55 (0, 0)) := by rw [← hw3]; exact alloc_keep (heap_alloc_new _ _)
  have hY : W.heap[w.heap.size + 1]? = some (.cells #[.int .i64 yk, .int .i64 yo, .slice ya yn yc, .int .i64 yr, .int .i64 yw, .bool yb, .int .i64 ym, .int .i64 yu, .int .i64 yg, .int .i64 yd, .int .i64 yq, .bool yy] 55 (0, 0)) := by rw [← hw3]; exact alloc_at (by simp)
  have bW : Below w.heap.size w W := by rw [← hw3]; exact ((Below.refl _ _).alloc (Nat.le_refl _) _).alloc (by simp) _
  obtain ⟨pk0, pk1, pk2, pk3, pk4, pk5, pk6, pk7, pk8, pk9, pk10, pk11⟩ := cbox_cells xk xo xr xw xm xu xg xd xq xb xy xa xn xc xF hX
  obtain ⟨qk0, qk1, qk2, qk3, qk4, qk5, qk6, qk7, qk8, qk9, qk10, qk11⟩ := cbox_cells yk yo yr yw ym yu yg yd yq yb yy ya yn yc yF hY
  replace bW := Lib.hid bW
  clear hX hY hw3 hx hy
  cases hk : (xk == yk)
  · obtain rfl : R = false := by rw [← hR.out]; simp [*]
    as_aux_lemma =>
      go_wp2_with fail
      go_ret
      exact ⟨by simp, bW.out⟩
  obtain rfl : xk = yk := by simpa using hk
  clear hk
  cases ho : (xo == yo)
  · obtain rfl : R = false := by rw [← hR.out]; simp [*]
    as_aux_lemma =>
      go_wp2_with fail
      go_ret
      exact ⟨by simp, bW.out⟩
  obtain rfl : xo = yo := by simpa using ho
  clear ho
  cases S
  · obtain rfl : R = false := by rw [← hR.out]; simp [*]
    as_aux_lemma =>
      go_wp2_with fail
      refine (C1.out _ bW.out).mono ?_
      rintro e w6 ⟨rfl, q6, rfl⟩
      go_wp2_with fail
      go_ret
      exact ⟨by simp, bW.out.trans (below_dn _ _ _)⟩
  cases hr : (xr == yr)
  · obtain rfl : R = false := by rw [← hR.out]; simp [*]
    as_aux_lemma =>
      go_wp2_with fail
      refine (C1.out _ bW.out).mono ?_
      rintro e w6 ⟨rfl, q6, rfl⟩
      go_wp2_with fail
      go_ret
      exact ⟨by simp, bW.out.trans (below_dn _ _ _)⟩
  obtain rfl : xr = yr := by simpa using hr
  clear hr
  cases hw : (xw == yw)
  · obtain rfl : R = false := by rw [← hR.out]; simp [*]
    as_aux_lemma =>
      go_wp2_with fail
      refine (C1.out _ bW.out).mono ?_
      rintro e w6 ⟨rfl, q6, rfl⟩
      go_wp2_with fail
      go_ret
      exact ⟨by simp, bW.out.trans (below_dn _ _ _)⟩
  obtain rfl : xw = yw := by simpa using hw
  clear hw
  cases hb : (xb == yb)
  · obtain rfl : R = false := by rw [← hR.out]; simp [*]
    as_aux_lemma =>
      obtain rfl : yb = !xb := by cases xb <;> cases yb <;> simp_all
      clear hb
      cases xb
      all_goals
        go_wp2_with fail
        refine (C1.out _ bW.out).mono ?_
        rintro e w6 ⟨rfl, q6, rfl⟩
        go_wp2_with fail
        go_ret
        exact ⟨by simp, bW.out.trans (below_dn _ _ _)⟩
  obtain rfl : xb = yb := by simpa using hb
  clear hb
  cases hm : (xm == ym)
  · obtain rfl : R = false := by rw [← hR.out]; simp [*]
    as_aux_lemma =>
      go_wp2_with fail
      refine (C1.out _ bW.out).mono ?_
      rintro e w6 ⟨rfl, q6, rfl⟩
      go_wp2_with fail
      go_ret
      exact ⟨by simp, bW.out.trans (below_dn _ _ _)⟩
  obtain rfl : xm = ym := by simpa using hm
  clear hm
  cases hu : (xu == yu)
  · obtain rfl : R = false := by rw [← hR.out]; simp [*]
    as_aux_lemma =>
      go_wp2_with fail
      refine (C1.out _ bW.out).mono ?_
      rintro e w6 ⟨rfl, q6, rfl⟩
      go_wp2_with fail
      go_ret
      exact ⟨by simp, bW.out.trans (below_dn _ _ _)⟩
  obtain rfl : xu = yu := by simpa using hu
  clear hu
  cases hg : (xg == yg)
  · obtain rfl : R = false := by rw [← hR.out]; simp [*]
    as_aux_lemma =>
      go_wp2_with fail
      refine (C1.out _ bW.out).mono ?_
      rintro e w6 ⟨rfl, q6, rfl⟩
      go_wp2_with fail
      go_ret
      exact ⟨by simp, bW.out.trans (below_dn _ _ _)⟩
  obtain rfl : xg = yg := by simpa using hg
  clear hg
  cases hd : (xd == yd)
  · obtain rfl : R = false := by rw [← hR.out]; simp [*]
    as_aux_lemma =>
      go_wp2_with fail
      refine (C1.out _ bW.out).mono ?_
      rintro e w6 ⟨rfl, q6, rfl⟩
      go_wp2_with fail
      go_ret
      exact ⟨by simp, bW.out.trans (below_dn _ _ _)⟩
  obtain rfl : xd = yd := by simpa using hd
  clear hd
  cases hq : (xq == yq)
  · obtain rfl : R = false := by rw [← hR.out]; simp [*]
    as_aux_lemma =>
      go_wp2_with fail
      refine (C1.out _ bW.out).mono ?_
      rintro e w6 ⟨rfl, q6, rfl⟩
      go_wp2_with fail
      go_ret
      exact ⟨by simp, bW.out.trans (below_dn _ _ _)⟩
  obtain rfl : xq = yq := by simpa using hq
  clear hq
  cases hy : (xy == yy)
  · obtain rfl : R = false := by rw [← hR.out]; simp [*]
    as_aux_lemma =>
      obtain rfl : yy = !xy := by cases xy <;> cases yy <;> simp_all
      clear hy
      cases xy
      all_goals
        go_wp2_with fail
        refine (C1.out _ bW.out).mono ?_
        rintro e w6 ⟨rfl, q6, rfl⟩
        go_wp2_with fail
        go_ret
        exact ⟨by simp, bW.out.trans (below_dn _ _ _)⟩
  obtain rfl : xy = yy := by simpa using hy
  clear hy
  obtain rfl : R = true := by rw [← hR.out]; simp
  as_aux_lemma =>
    go_wp2_with fail
    refine (C1.out _ bW.out).mono ?_
    rintro e w6 ⟨rfl, q6, rfl⟩
    go_wp2_with fail
    go_ret
    exact ⟨by simp, bW.out.trans (below_dn _ _ _)⟩

end Go.Proofs.Ytnkgbigjpihfeaa.Ma
