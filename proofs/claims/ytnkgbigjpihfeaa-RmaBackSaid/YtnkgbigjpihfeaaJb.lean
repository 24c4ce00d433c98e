/- recouplaw15.Same at every two commands. -/
import Derived.Test.YtnkgbigjpihfeaaIb
import Derived.Test.YtnkgbigjpihfeaaMb
import Derived.Deep.CutRange
set_option linter.unusedVariables false
set_option linter.unusedSimpArgs false
namespace Go.Proofs.Ytnkgbigjpihfeaa.Ma
open Go.RowKit Go.Proofs.Ytnkgbigjpihfeaa.Lib

/-- Are two commands alike? -/
def eqC (xk xo xr xw xm xu xg xd xq : Int) (xb xy : Bool) (xa : Option Addr) (xn xc : Nat) (xF : Nat → Int) (yk yo yr yw ym yu yg yd yq : Int) (yb yy : Bool) (ya : Option Addr) (yn yc : Nat) (yF : Nat → Int) : Bool := (xk == yk) && (xo == yo) && sameB xn xF yn yF && (xr == yr) && (xw == yw) && (xb == yb) && (xm == ym) && (xu == yu) && (xg == yg) && (xd == yd) && (xq == yq) && (xy == yy)

theorem cbox_cells (xk xo xr xw xm xu xg xd xq : Int) (xb xy : Bool) (xa : Option Addr) (xn xc : Nat) (xF : Nat → Int) {w : World} {b : Nat} {t : TypeId} (h : w.heap[b]? = some (.cells #[.int .i64 xk, .int .i64 xo, .slice xa xn xc, .int .i64 xr, .int .i64 xw, .bool xb, .int .i64 xm, .int .i64 xu, .int .i64 xg, .int .i64 xd, .int .i64 xq, .bool xy] t (0, 0))) : w.cell? ⟨b, 0, none⟩ = some (.int .i64 xk) ∧ w.cell? ⟨b, 1, none⟩ = some (.int .i64 xo) ∧ w.cell? ⟨b, 2, none⟩ = some (.slice xa xn xc) ∧ w.cell? ⟨b, 3, none⟩ = some (.int .i64 xr) ∧ w.cell? ⟨b, 4, none⟩ = some (.int .i64 xw) ∧ w.cell? ⟨b, 5, none⟩ = some (.bool xb) ∧ w.cell? ⟨b, 6, none⟩ = some (.int .i64 xm) ∧ w.cell? ⟨b, 7, none⟩ = some (.int .i64 xu) ∧ w.cell? ⟨b, 8, none⟩ = some (.int .i64 xg) ∧ w.cell? ⟨b, 9, none⟩ = some (.int .i64 xd) ∧ w.cell? ⟨b, 10, none⟩ = some (.int .i64 xq) ∧ w.cell? ⟨b, 11, none⟩ = some (.bool xy) := by simp [World.cell?, h]
theorem cbox_cells0 (xk xo xr xw xm xu xg xd xq : Int) (xb xy : Bool) (xa : Option Addr) (xn xc : Nat) (xF : Nat → Int) {w : World} {b : Nat} {t : TypeId} (h : w.heap[b]? = some (.cells #[.int .i64 xk, .int .i64 xo, .slice none 0 0, .int .i64 xr, .int .i64 xw, .bool xb, .int .i64 xm, .int .i64 xu, .int .i64 xg, .int .i64 xd, .int .i64 xq, .bool xy] t (0, 0))) : w.cell? ⟨b, 0, none⟩ = some (.int .i64 xk) ∧ w.cell? ⟨b, 1, none⟩ = some (.int .i64 xo) ∧ w.cell? ⟨b, 2, none⟩ = some (.slice none 0 0) ∧ w.cell? ⟨b, 3, none⟩ = some (.int .i64 xr) ∧ w.cell? ⟨b, 4, none⟩ = some (.int .i64 xw) ∧ w.cell? ⟨b, 5, none⟩ = some (.bool xb) ∧ w.cell? ⟨b, 6, none⟩ = some (.int .i64 xm) ∧ w.cell? ⟨b, 7, none⟩ = some (.int .i64 xu) ∧ w.cell? ⟨b, 8, none⟩ = some (.int .i64 xg) ∧ w.cell? ⟨b, 9, none⟩ = some (.int .i64 xd) ∧ w.cell? ⟨b, 10, none⟩ = some (.int .i64 xq) ∧ w.cell? ⟨b, 11, none⟩ = some (.bool xy) := by simp [World.cell?, h]

set_option maxRecDepth 100000 in
set_option maxHeartbeats 6400000 in
theorem same15 (xk xo xr xw xm xu xg xd xq : Int) (xb xy : Bool) (xa : Option Addr) (xn xc : Nat) (xF : Nat → Int) (yk yo yr yw ym yu yg yd yq : Int) (yb yy : Bool) (ya : Option Addr) (yn yc : Nat) (yF : Nat → Int) (w : World) (hx : IntsAt w .i64 xa xn xF) (hy : IntsAt w .i64 ya yn yF) :
    Calls Try.prog 43 #[.agg #[.int .i64 xk, .int .i64 xo, .slice xa xn xc, .int .i64 xr, .int .i64 xw, .bool xb, .int .i64 xm, .int .i64 xu, .int .i64 xg, .int .i64 xd, .int .i64 xq, .bool xy], .agg #[.int .i64 yk, .int .i64 yo, .slice ya yn yc, .int .i64 yr, .int .i64 yw, .bool yb, .int .i64 ym, .int .i64 yu, .int .i64 yg, .int .i64 yd, .int .i64 yq, .bool yy]] w fun e w' => e = .returned (.bool (eqC xk xo xr xw xm xu xg xd xq xb xy xa xn xc xF yk yo yr yw ym yu yg yd yq yb yy ya yn yc yF)) ∧ Below w.heap.size w w' := by
  have C1 : Hid (∀ w', Below w.heap.size w w' → Calls Try.prog 74 #[.slice xa xn xc, .slice ya yn yc] w' fun e w'' => e = .returned (.bool (sameB xn xF yn yF)) ∧ ∃ q, w'' = w'.drewN q) := Lib.hid (fun w' hb => ints_any w' (hx.below hb) (hy.below hb))
  unfold eqC
  generalize sameB xn xF yn yF = S at *
  generalize hR : ((xk == yk) && (xo == yo) && S && (xr == yr) && (xw == yw) && (xb == yb) && (xm == ym) && (xu == yu) && (xg == yg) && (xd == yd) && (xq == yq) && (xy == yy)) = R
  replace hR := Lib.hid hR
  go_enter Try.func43, Try.ntmps43
  go_wp2_with fail
  generalize hw3 : World.alloc (World.alloc w _) _ = W
  have hX : W.heap[w.heap.size]? = some (.cells #[.int .i64 xk, .int .i64 xo, .slice xa xn xc, .int .i64 xr, .int .i64 xw, .bool xb, .int .i64 xm, .int .i64 xu, .int .i64 xg, .int .i64 xd, .int .i64 xq, .bool xy] 53 (0, 0)) := by rw [← hw3]; exact alloc_keep (heap_alloc_new _ _)
  have hY : W.heap[w.heap.size + 1]? = some (.cells #[.int .i64 yk, .int .i64 yo, .slice ya yn yc, .int .i64 yr, .int .i64 yw, .bool yb, .int .i64 ym, .int .i64 yu, .int .i64 yg, .int .i64 yd, .int .i64 yq, .bool yy] 53 (0, 0)) := by rw [← hw3]; exact alloc_at (by simp)
  have hsz : W.heap.size = w.heap.size + 2 := by rw [← hw3]; simp
  have hbw : Below w.heap.size w W := by rw [← hw3]; exact ((Below.refl _ _).alloc (Nat.le_refl _) _).alloc (by simp) _
  have KS : Hid (∀ w', Below W.heap.size W w' → (w'.cell? ⟨w.heap.size, 0, none⟩ = some (.int .i64 xk) ∧ w'.cell? ⟨w.heap.size, 1, none⟩ = some (.int .i64 xo) ∧ w'.cell? ⟨w.heap.size, 2, none⟩ = some (.slice xa xn xc) ∧ w'.cell? ⟨w.heap.size, 3, none⟩ = some (.int .i64 xr) ∧ w'.cell? ⟨w.heap.size, 4, none⟩ = some (.int .i64 xw) ∧ w'.cell? ⟨w.heap.size, 5, none⟩ = some (.bool xb) ∧ w'.cell? ⟨w.heap.size, 6, none⟩ = some (.int .i64 xm) ∧ w'.cell? ⟨w.heap.size, 7, none⟩ = some (.int .i64 xu) ∧ w'.cell? ⟨w.heap.size, 8, none⟩ = some (.int .i64 xg) ∧ w'.cell? ⟨w.heap.size, 9, none⟩ = some (.int .i64 xd) ∧ w'.cell? ⟨w.heap.size, 10, none⟩ = some (.int .i64 xq) ∧ w'.cell? ⟨w.heap.size, 11, none⟩ = some (.bool xy)) ∧ (w'.cell? ⟨(w.heap.size + 1), 0, none⟩ = some (.int .i64 yk) ∧ w'.cell? ⟨(w.heap.size + 1), 1, none⟩ = some (.int .i64 yo) ∧ w'.cell? ⟨(w.heap.size + 1), 2, none⟩ = some (.slice ya yn yc) ∧ w'.cell? ⟨(w.heap.size + 1), 3, none⟩ = some (.int .i64 yr) ∧ w'.cell? ⟨(w.heap.size + 1), 4, none⟩ = some (.int .i64 yw) ∧ w'.cell? ⟨(w.heap.size + 1), 5, none⟩ = some (.bool yb) ∧ w'.cell? ⟨(w.heap.size + 1), 6, none⟩ = some (.int .i64 ym) ∧ w'.cell? ⟨(w.heap.size + 1), 7, none⟩ = some (.int .i64 yu) ∧ w'.cell? ⟨(w.heap.size + 1), 8, none⟩ = some (.int .i64 yg) ∧ w'.cell? ⟨(w.heap.size + 1), 9, none⟩ = some (.int .i64 yd) ∧ w'.cell? ⟨(w.heap.size + 1), 10, none⟩ = some (.int .i64 yq) ∧ w'.cell? ⟨(w.heap.size + 1), 11, none⟩ = some (.bool yy))) := Lib.hid (fun w' hq => ⟨cbox_cells xk xo xr xw xm xu xg xd xq xb xy xa xn xc xF ((hq.block w.heap.size (by omega)).trans hX), cbox_cells yk yo yr yw ym yu yg yd yq yb yy ya yn yc yF ((hq.block (w.heap.size + 1) (by omega)).trans hY)⟩)
  have hb := Lib.hid (Below.drew (Below.refl W.heap.size W))
  replace hsz := Lib.hid hsz
  replace hbw := Lib.hid hbw
  clear hw3 hX hY hx hy
  go_cut [5, 6] from 7 to 8 (fun s5 s6 wr => ∃ p q : Nat, s5 = .pointer (some ⟨p, 0, none⟩) ∧ s6 = .pointer (some ⟨q, 0, none⟩) ∧ p ≠ q ∧ W.heap.size ≤ p ∧ W.heap.size ≤ q ∧ wr.heap[p]? = some (.cells #[.int .i64 xk, .int .i64 xo, .slice xa xn xc, .int .i64 xr, .int .i64 xw, .bool xb, .int .i64 xm, .int .i64 xu, .int .i64 xg, .int .i64 xd, .int .i64 xq, .bool xy] 53 (0, 0)) ∧ wr.heap[q]? = some (.cells #[.int .i64 yk, .int .i64 yo, .slice ya yn yc, .int .i64 yr, .int .i64 yw, .bool yb, .int .i64 ym, .int .i64 yu, .int .i64 yg, .int .i64 yd, .int .i64 yq, .bool yy] 53 (0, 0)) ∧ Below W.heap.size W wr)
  case first =>
    go_region_held3 (fun w' => (w'.cell? ⟨w.heap.size, 0, none⟩ = some (.int .i64 xk) ∧ w'.cell? ⟨w.heap.size, 1, none⟩ = some (.int .i64 xo) ∧ w'.cell? ⟨w.heap.size, 2, none⟩ = some (.slice xa xn xc) ∧ w'.cell? ⟨w.heap.size, 3, none⟩ = some (.int .i64 xr) ∧ w'.cell? ⟨w.heap.size, 4, none⟩ = some (.int .i64 xw) ∧ w'.cell? ⟨w.heap.size, 5, none⟩ = some (.bool xb) ∧ w'.cell? ⟨w.heap.size, 6, none⟩ = some (.int .i64 xm) ∧ w'.cell? ⟨w.heap.size, 7, none⟩ = some (.int .i64 xu) ∧ w'.cell? ⟨w.heap.size, 8, none⟩ = some (.int .i64 xg) ∧ w'.cell? ⟨w.heap.size, 9, none⟩ = some (.int .i64 xd) ∧ w'.cell? ⟨w.heap.size, 10, none⟩ = some (.int .i64 xq) ∧ w'.cell? ⟨w.heap.size, 11, none⟩ = some (.bool xy)) ∧ (w'.cell? ⟨(w.heap.size + 1), 0, none⟩ = some (.int .i64 yk) ∧ w'.cell? ⟨(w.heap.size + 1), 1, none⟩ = some (.int .i64 yo) ∧ w'.cell? ⟨(w.heap.size + 1), 2, none⟩ = some (.slice ya yn yc) ∧ w'.cell? ⟨(w.heap.size + 1), 3, none⟩ = some (.int .i64 yr) ∧ w'.cell? ⟨(w.heap.size + 1), 4, none⟩ = some (.int .i64 yw) ∧ w'.cell? ⟨(w.heap.size + 1), 5, none⟩ = some (.bool yb) ∧ w'.cell? ⟨(w.heap.size + 1), 6, none⟩ = some (.int .i64 ym) ∧ w'.cell? ⟨(w.heap.size + 1), 7, none⟩ = some (.int .i64 yu) ∧ w'.cell? ⟨(w.heap.size + 1), 8, none⟩ = some (.int .i64 yg) ∧ w'.cell? ⟨(w.heap.size + 1), 9, none⟩ = some (.int .i64 yd) ∧ w'.cell? ⟨(w.heap.size + 1), 10, none⟩ = some (.int .i64 yq) ∧ w'.cell? ⟨(w.heap.size + 1), 11, none⟩ = some (.bool yy))) (first
      | exact KS.out _ hb.out
      | exact KS.out _ (hb.out.alloc (Nat.le_refl _) _)
      | exact KS.out _ ((hb.out.alloc (Nat.le_refl _) _).alloc (by simp) _)) (fail)
    · go_wp2_with fail
      go_meet
      exact ⟨_, _, rfl, rfl, by omega, Nat.le_refl _, Nat.le_succ _, alloc_keep (heap_alloc_new _ _), alloc_at (by simp), (((Below.refl _ _).alloc (Nat.le_refl _) _).alloc (by simp) _).drew⟩
    · go_wp2_with fail
      go_meet
      exact ⟨_, _, rfl, rfl, by omega, Nat.le_succ _, Nat.le_refl _, alloc_at (by simp), alloc_keep (heap_alloc_new _ _), (((Below.refl _ _).alloc (Nat.le_refl _) _).alloc (by simp) _).drew⟩
  case rest =>
    obtain ⟨p, q, rfl, rfl, hpq, hp, hq, hP, hQ, hbc⟩ := hcut
    have cp : wc.cell? ⟨p, 2, none⟩ = some (.slice xa xn xc) := by simp [World.cell?, hP]
    have fp : wc.frozen? ⟨p, 2, none⟩ = false := by simp [World.frozen?, hP]
    have cq : wc.cell? ⟨q, 2, none⟩ = some (.slice ya yn yc) := by simp [World.cell?, hQ]
    have fq : wc.frozen? ⟨q, 2, none⟩ = false := by simp [World.frozen?, hQ]
    have hqp : q ≠ p := fun e => hpq e.symm
    have hs := hsz.out
    obtain ⟨ks1, ks2⟩ := KS.out _ hbc
    have P5 := (heap_setCell_other (wc.setCell ⟨p, 2, none⟩ (.slice none 0 0)) ⟨q, 2, none⟩ p (.slice none 0 0) hpq).trans (heap_setCell_same wc p 2 _ _ (.slice none 0 0) hP)
    have Q5 := heap_setCell_same (wc.setCell ⟨p, 2, none⟩ (.slice none 0 0)) q 2 _ _ (.slice none 0 0) ((heap_setCell_other wc ⟨p, 2, none⟩ q (.slice none 0 0) hqp).trans hQ)
    have A5 : ((wc.setCell ⟨p, 2, none⟩ (.slice none 0 0)).setCell ⟨q, 2, none⟩ (.slice none 0 0)).cell? ⟨w.heap.size, 2, none⟩ = some (.slice xa xn xc) := (World.cell?_setCell_far _ _ _ _ (by show q ≠ w.heap.size; omega)).trans ((World.cell?_setCell_far _ _ _ _ (by show p ≠ w.heap.size; omega)).trans ks1.2.2.1)
    have B5 : ((wc.setCell ⟨p, 2, none⟩ (.slice none 0 0)).setCell ⟨q, 2, none⟩ (.slice none 0 0)).cell? ⟨w.heap.size + 1, 2, none⟩ = some (.slice ya yn yc) := (World.cell?_setCell_far _ _ _ _ (by show q ≠ w.heap.size + 1; omega)).trans ((World.cell?_setCell_far _ _ _ _ (by show p ≠ w.heap.size + 1; omega)).trans ks2.2.2.1)
    have b5 : Below w.heap.size w ((wc.setCell ⟨p, 2, none⟩ (.slice none 0 0)).setCell ⟨q, 2, none⟩ (.slice none 0 0)) := ((hbw.out.trans (below_lee hbc (by omega))).setCell (p := ⟨p, 2, none⟩) (by show w.heap.size ≤ p; omega) _).setCell (p := ⟨q, 2, none⟩) (by show w.heap.size ≤ q; omega) _
    replace P5 := Lib.hid P5
    replace Q5 := Lib.hid Q5
    replace A5 := Lib.hid A5
    replace B5 := Lib.hid B5
    replace b5 := Lib.hid b5
    clear ks1 ks2 hP hQ KS hb hbw hsz hs hbc hp hq
    go_upto_region 3 with fail
    generalize ((wc.setCell ⟨p, 2, none⟩ (.slice none 0 0)).setCell ⟨q, 2, none⟩ (.slice none 0 0)) = V at *
    obtain ⟨pk0, pk1, pk2, pk3, pk4, pk5, pk6, pk7, pk8, pk9, pk10, pk11⟩ := cbox_cells0 xk xo xr xw xm xu xg xd xq xb xy xa xn xc xF P5.out
    obtain ⟨qk0, qk1, qk2, qk3, qk4, qk5, qk6, qk7, qk8, qk9, qk10, qk11⟩ := cbox_cells0 yk yo yr yw ym yu yg yd yq yb yy ya yn yc yF Q5.out
    have Ac := A5.out
    have Bc := B5.out
    have bW := b5
    clear cp fp cq fq hpq hqp P5 Q5 A5 B5 b5 pk2 qk2
    cases S
    · obtain rfl : R = false := by rw [← hR.out]; simp [*]
      as_aux_lemma =>
        go_wp2_with fail
        refine (C1.out _ bW.out).mono ?_
        rintro e w6 ⟨rfl, q6, rfl⟩
        go_wp2_with fail
        go_ret
        exact ⟨by simp, bW.out.trans (below_dn _ _ _)⟩
    cases hk : (xk == yk)
    · obtain rfl : R = false := by rw [← hR.out]; simp [*]
      as_aux_lemma =>
        go_wp2_with fail
        refine (C1.out _ bW.out).mono ?_
        rintro e w6 ⟨rfl, q6, rfl⟩
        go_wp2_with fail
        go_ret
        exact ⟨by simp, bW.out.trans (below_dn _ _ _)⟩
    obtain rfl : xk = yk := by simpa using hk
    clear hk
    cases ho : (xo == yo)
    · obtain rfl : R = false := by rw [← hR.out]; simp [*]
      as_aux_lemma =>
        go_wp2_with fail
        refine (C1.out _ bW.out).mono ?_
        rintro e w6 ⟨rfl, q6, rfl⟩
        go_wp2_with fail
        go_ret
        exact ⟨by simp, bW.out.trans (below_dn _ _ _)⟩
    obtain rfl : xo = yo := by simpa using ho
    clear ho
    cases hr : (xr == yr)
    · obtain rfl : R = false := by rw [← hR.out]; simp [*]
      as_aux_lemma =>
        go_wp2_with fail
        refine (C1.out _ bW.out).mono ?_
        rintro e w6 ⟨rfl, q6, rfl⟩
        go_wp2_with fail
        go_ret
        exact ⟨by simp, bW.out.trans (below_dn _ _ _)⟩
    obtain rfl : xr = yr := by simpa using hr
    clear hr
    cases hw : (xw == yw)
    · obtain rfl : R = false := by rw [← hR.out]; simp [*]
      as_aux_lemma =>
        go_wp2_with fail
        refine (C1.out _ bW.out).mono ?_
        rintro e w6 ⟨rfl, q6, rfl⟩
        go_wp2_with fail
        go_ret
        exact ⟨by simp, bW.out.trans (below_dn _ _ _)⟩
    obtain rfl : xw = yw := by simpa using hw
    clear hw
    cases hb : (xb == yb)
    · obtain rfl : R = false := by rw [← hR.out]; simp [*]
      as_aux_lemma =>
        obtain rfl : yb = !xb := by cases xb <;> cases yb <;> simp_all
        clear hb
        cases xb
        all_goals
          go_wp2_with fail
          refine (C1.out _ bW.out).mono ?_
          rintro e w6 ⟨rfl, q6, rfl⟩
          go_wp2_with fail
          go_ret
          exact ⟨by simp, bW.out.trans (below_dn _ _ _)⟩
    obtain rfl : xb = yb := by simpa using hb
    clear hb
    cases hm : (xm == ym)
    · obtain rfl : R = false := by rw [← hR.out]; simp [*]
      as_aux_lemma =>
        go_wp2_with fail
        refine (C1.out _ bW.out).mono ?_
        rintro e w6 ⟨rfl, q6, rfl⟩
        go_wp2_with fail
        go_ret
        exact ⟨by simp, bW.out.trans (below_dn _ _ _)⟩
    obtain rfl : xm = ym := by simpa using hm
    clear hm
    cases hu : (xu == yu)
    · obtain rfl : R = false := by rw [← hR.out]; simp [*]
      as_aux_lemma =>
        go_wp2_with fail
        refine (C1.out _ bW.out).mono ?_
        rintro e w6 ⟨rfl, q6, rfl⟩
        go_wp2_with fail
        go_ret
        exact ⟨by simp, bW.out.trans (below_dn _ _ _)⟩
    obtain rfl : xu = yu := by simpa using hu
    clear hu
    cases hg : (xg == yg)
    · obtain rfl : R = false := by rw [← hR.out]; simp [*]
      as_aux_lemma =>
        go_wp2_with fail
        refine (C1.out _ bW.out).mono ?_
        rintro e w6 ⟨rfl, q6, rfl⟩
        go_wp2_with fail
        go_ret
        exact ⟨by simp, bW.out.trans (below_dn _ _ _)⟩
    obtain rfl : xg = yg := by simpa using hg
    clear hg
    cases hd : (xd == yd)
    · obtain rfl : R = false := by rw [← hR.out]; simp [*]
      as_aux_lemma =>
        go_wp2_with fail
        refine (C1.out _ bW.out).mono ?_
        rintro e w6 ⟨rfl, q6, rfl⟩
        go_wp2_with fail
        go_ret
        exact ⟨by simp, bW.out.trans (below_dn _ _ _)⟩
    obtain rfl : xd = yd := by simpa using hd
    clear hd
    cases hq : (xq == yq)
    · obtain rfl : R = false := by rw [← hR.out]; simp [*]
      as_aux_lemma =>
        go_wp2_with fail
        refine (C1.out _ bW.out).mono ?_
        rintro e w6 ⟨rfl, q6, rfl⟩
        go_wp2_with fail
        go_ret
        exact ⟨by simp, bW.out.trans (below_dn _ _ _)⟩
    obtain rfl : xq = yq := by simpa using hq
    clear hq
    cases hy : (xy == yy)
    · obtain rfl : R = false := by rw [← hR.out]; simp [*]
      as_aux_lemma =>
        obtain rfl : yy = !xy := by cases xy <;> cases yy <;> simp_all
        clear hy
        cases xy
        all_goals
          go_wp2_with fail
          refine (C1.out _ bW.out).mono ?_
          rintro e w6 ⟨rfl, q6, rfl⟩
          go_wp2_with fail
          go_ret
          exact ⟨by simp, bW.out.trans (below_dn _ _ _)⟩
    obtain rfl : xy = yy := by simpa using hy
    clear hy
    obtain rfl : R = true := by rw [← hR.out]; simp
    as_aux_lemma =>
      go_wp2_with fail
      refine (C1.out _ bW.out).mono ?_
      rintro e w6 ⟨rfl, q6, rfl⟩
      go_wp2_with fail
      go_ret
      exact ⟨by simp, bW.out.trans (below_dn _ _ _)⟩

end Go.Proofs.Ytnkgbigjpihfeaa.Ma
