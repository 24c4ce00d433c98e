/- recouplaw14.Right: what is right is so. -/
import Derived.Test.YtnkgbigjpihfeaaFd
set_option linter.unusedVariables false
set_option linter.unusedSimpArgs false
namespace Go.Proofs.Ytnkgbigjpihfeaa.Kd
open Go.RowKit Go.Proofs.Ytnkgbigjpihfeaa.Lib
open Go.Proofs.Ytnkgbigjpihfeaa.Ma (alloc_keep alloc_at below_lee)

/-- A quiet call behind draws. -/
theorem quiet_add_same {P : Program} {f : FuncId} {args : Array Value} {w : World} {a n : Nat} {v : Value} (h : Calls P f args (w.drewN (a + n)) fun e w' => e = .returned v ∧ w' = w.drewN (a + n)) :
    Calls P f args (w.drewN (a + n)) fun e w'' => e = .returned v ∧ ∃ m, w'' = w.drewN (a + m) :=
  h.mono fun _ _ ⟨he, hm⟩ => ⟨he, n, hm⟩

def btB (x a b : Int) : Bool := decide (a ≤ x ∧ x ≤ b)
theorem btB_t {x a b : Int} (h : btB x a b = true) : a ≤ x ∧ x ≤ b := of_decide_eq_true h
theorem btB_f {x a b : Int} (h : btB x a b = false) : x < a ∨ b < x := by have := of_decide_eq_false h; omega
theorem between_t {x a b : Int} (h : btB x a b = true) (w : World) : Calls Try.prog 78 #[.int .i64 x, .int .i64 a, .int .i64 b] w fun e w' => e = .returned (.bool true) ∧ w' = w := by
  obtain ⟨h1, h2⟩ := btB_t h
  clear h
  go_enter Try.func78, Try.ntmps78
  go_wp2_with fail
  go_ret
  exact ⟨by simp [h2], rfl⟩
theorem between_f {x a b : Int} (h : btB x a b = false) (w : World) : Calls Try.prog 78 #[.int .i64 x, .int .i64 a, .int .i64 b] w fun e w' => e = .returned (.bool false) ∧ w' = w := by
  by_cases h1 : a ≤ x
  · have h2 : ¬ x ≤ b := by have := btB_f h; omega
    clear h
    go_enter Try.func78, Try.ntmps78
    go_wp2_with fail
    go_ret
    exact ⟨by simp [h2], rfl⟩
  · clear h
    go_enter Try.func78, Try.ntmps78
    go_wp2_with fail
    go_ret
    exact ⟨rfl, rfl⟩
def ctB (x : Int) : Bool := decide (0 ≤ x ∧ x ≤ 1125899906842624)
theorem cents_t {x : Int} (h : ctB x = true) (w : World) : Calls Try.prog 79 #[.int .i64 x] w fun e w' => e = .returned (.bool true) ∧ w' = w := by
  obtain ⟨h1, h2⟩ := of_decide_eq_true h
  clear h
  go_enter Try.func79, Try.ntmps79
  go_wp2_with fail
  go_ret
  exact ⟨by simp [h2], rfl⟩
theorem cents_f {x : Int} (h : ctB x = false) (w : World) : Calls Try.prog 79 #[.int .i64 x] w fun e w' => e = .returned (.bool false) ∧ w' = w := by
  have h0 := of_decide_eq_false h
  by_cases h1 : 0 ≤ x
  · have h2 : ¬ x ≤ 1125899906842624 := by omega
    clear h h0
    go_enter Try.func79, Try.ntmps79
    go_wp2_with fail
    go_ret
    exact ⟨by simp [h2], rfl⟩
  · clear h h0
    go_enter Try.func79, Try.ntmps79
    go_wp2_with fail
    go_ret
    exact ⟨rfl, rfl⟩

/-- A right return. -/
def rightP (x0 x1 x2 x3 x4 x6 x7 x10 x11 x12 x13 : Int) (x5 : Bool) (xa xd : Option Addr) (xn xc xm xe : Nat) (xF xG : Nat → Int) : Prop :=
  1 ≤ xn ∧ xn ≤ 200 ∧ xm = xn ∧ (∀ j, j < xn → (0 ≤ xF j ∧ xF j ≤ 199) ∧ (-1 ≤ xG j ∧ xG j ≤ 4)) ∧ (1 ≤ x0 ∧ x0 ≤ 100) ∧ (0 ≤ x1 ∧ x1 ≤ 19) ∧ (0 ≤ x2 ∧ x2 ≤ 3) ∧ (0 ≤ x3 ∧ x3 ≤ 1000) ∧ (-1 ≤ x4 ∧ x4 ≤ 199) ∧ (1 ≤ x6 ∧ x6 ≤ 9) ∧ (0 ≤ x7 ∧ x7 ≤ 100000) ∧
  (0 ≤ x10 ∧ x10 ≤ 1125899906842624) ∧ (0 ≤ x11 ∧ x11 ≤ 1125899906842624) ∧ (0 ≤ x12 ∧ x12 ≤ 1125899906842624) ∧ (0 ≤ x13 ∧ x13 ≤ 1125899906842624)
/-- What Right tells. -/
def rtPost (R : Prop) (w : World) (e : Ending) (w' : World) : Prop := ∃ b : Bool, e = .returned (.bool b) ∧ (b = true → R) ∧ Below w.heap.size w w'
theorem rtPost.no {R : Prop} {w w' : World} (h : Below w.heap.size w w') : rtPost R w (.returned (.bool false)) w' := ⟨false, rfl, (fun h => by cases h), h⟩

set_option maxRecDepth 100000 in
set_option maxHeartbeats 6400000 in
theorem right_any (x0 x1 x2 x3 x4 x6 x7 x10 x11 x12 x13 : Int) (x5 : Bool) (xa xd : Option Addr) (xn xc xm xe : Nat) (xF xG : Nat → Int) (w : World) (hx : IntsAt w .i64 xa xn xF) (hy : IntsAt w .i64 xd xm xG) :
    Calls Try.prog 55 #[.agg #[.int .i64 x0, .int .i64 x1, .int .i64 x2, .int .i64 x3, .int .i64 x4, .bool x5, .int .i64 x6, .int .i64 x7, .slice xa xn xc, .slice xd xm xe, .int .i64 x10, .int .i64 x11, .int .i64 x12, .int .i64 x13]] w fun e w' => rtPost (rightP x0 x1 x2 x3 x4 x6 x7 x10 x11 x12 x13 x5 xa xd xn xc xm xe xF xG) w e w' := by
  have hbig := hx.1
  have hbig2 := hy.1
  have hB0 : (w.alloc (.cells #[.int .i64 x0, .int .i64 x1, .int .i64 x2, .int .i64 x3, .int .i64 x4, .bool x5, .int .i64 x6, .int .i64 x7, .slice xa xn xc, .slice xd xm xe, .int .i64 x10, .int .i64 x11, .int .i64 x12, .int .i64 x13] 73)).heap[w.heap.size]? = some (.cells #[.int .i64 x0, .int .i64 x1, .int .i64 x2, .int .i64 x3, .int .i64 x4, .bool x5, .int .i64 x6, .int .i64 x7, .slice xa xn xc, .slice xd xm xe, .int .i64 x10, .int .i64 x11, .int .i64 x12, .int .i64 x13] 73 (0, 0)) := heap_alloc_new _ _
  have hb0 := Lib.hid ((Below.refl w.heap.size w).alloc (Nat.le_refl _) (.cells #[.int .i64 x0, .int .i64 x1, .int .i64 x2, .int .i64 x3, .int .i64 x4, .bool x5, .int .i64 x6, .int .i64 x7, .slice xa xn xc, .slice xd xm xe, .int .i64 x10, .int .i64 x11, .int .i64 x12, .int .i64 x13] 73))
  have hx0 := Lib.hid (Ma.ints_alloc hx (.cells #[.int .i64 x0, .int .i64 x1, .int .i64 x2, .int .i64 x3, .int .i64 x4, .bool x5, .int .i64 x6, .int .i64 x7, .slice xa xn xc, .slice xd xm xe, .int .i64 x10, .int .i64 x11, .int .i64 x12, .int .i64 x13] 73))
  have hy0 := Lib.hid (Ma.ints_alloc hy (.cells #[.int .i64 x0, .int .i64 x1, .int .i64 x2, .int .i64 x3, .int .i64 x4, .bool x5, .int .i64 x6, .int .i64 x7, .slice xa xn xc, .slice xd xm xe, .int .i64 x10, .int .i64 x11, .int .i64 x12, .int .i64 x13] 73))
  obtain ⟨k0, k1, k2, k3, k4, k5, k6, k7, k8, k9, k10, k11, k12, k13⟩ := rbox_cells x0 x1 x2 x3 x4 x6 x7 x10 x11 x12 x13 x5 xa xd xn xc xm xe xF xG hB0
  clear hx hy hB0
  obtain ⟨R, hR⟩ : ∃ R, rightP x0 x1 x2 x3 x4 x6 x7 x10 x11 x12 x13 x5 xa xd xn xc xm xe xF xG = R := ⟨_, rfl⟩
  rw [hR]
  replace hR := Lib.hid hR
  go_enter Try.func55, Try.ntmps55
  go_upto_region 1 with fail
  generalize w.alloc (.cells #[.int .i64 x0, .int .i64 x1, .int .i64 x2, .int .i64 x3, .int .i64 x4, .bool x5, .int .i64 x6, .int .i64 x7, .slice xa xn xc, .slice xd xm xe, .int .i64 x10, .int .i64 x11, .int .i64 x12, .int .i64 x13] 73) = W at *
  go_wp2_with fail
  cases hN : btB (xn : Int) 1 200
  · as_aux_lemma =>
      refine (between_f hN _).mono ?_
      rintro e w1 ⟨rfl, rfl⟩
      go_wp2_with fail
      go_ret
      exact rtPost.no hb0.out
  refine (between_t hN _).mono ?_
  rintro e w1 ⟨rfl, rfl⟩
  by_cases hnm : xm = xn
  rotate_left
  · have hnm' : ((xm : Int) != (xn : Int)) = true := by simp; omega
    have hnm2 : ((xm : Int) == (xn : Int)) = false := by simp; omega
    as_aux_lemma =>
      go_wp2_with fail
      go_ret
      exact rtPost.no hb0.out
  subst hnm
  have hN' := Lib.hid (btB_t hN)
  clear hN
  go_wp2_with fail
  obtain ⟨W, rfl⟩ : ∃ z, z = w1 := ⟨_, rfl⟩
  go_loopw [21] (fun i wr => ∃ j q : Nat, j ≤ xm ∧ i = .int .i64 j ∧ wr = W.drewN q ∧ Hid (∀ i, i < j → (0 ≤ xF i ∧ xF i ≤ 199) ∧ (-1 ≤ xG i ∧ xG i ≤ 4))) (fun i _ => xm - (intOf i).toNat)
  case atStart => exact ⟨0, 0, Nat.zero_le _, rfl, rfl, Lib.hid (fun i hi => absurd hi (by omega))⟩
  case round =>
    obtain ⟨j, q, hj, rfl, rfl, hS⟩ := hrel
    by_cases hlt : j < xm
    · have hlt' : (j : Int) < xm := by omega
      have hj0 : (0 : Int) ≤ j := by omega
      have HS : Hid ((0 ≤ xF j ∧ xF j ≤ 199) → (-1 ≤ xG j ∧ xG j ≤ 4) → ∀ i, i < j + 1 → (0 ≤ xF i ∧ xF i ≤ 199) ∧ (-1 ≤ xG i ∧ xG i ≤ 4)) := Lib.hid (fun h1 h2 i hi => by
        by_cases e : i = j
        · rw [e]; exact ⟨h1, h2⟩
        · exact hS.out i (by omega))
      obtain ⟨ba, oa, rfl, hba, hca⟩ := hx0.out.2 (by omega)
      obtain ⟨bd, od, rfl, hbd, hcd⟩ := hy0.out.2 (by omega)
      have ca := hca j hlt
      have cd := hcd j hlt
      by_cases hj1 : j = 0
      · subst hj1
        have ca0 : W.cell? ⟨ba, oa, none⟩ = some (.int .i64 (xF 0)) := hca 0 hlt
        have cd0 : W.cell? ⟨bd, od, none⟩ = some (.int .i64 (xG 0)) := hcd 0 hlt
        clear hca hcd ca cd
        generalize xF 0 = u at *
        generalize xG 0 = g at *
        cases hb1 : btB u 0 199
        · as_aux_lemma =>
            go_wp2_with fail
            go_quiet ((go_at_call 78; first | (with_reducible exact quiet_add_same (between_t hb1 _)) | (with_reducible exact quiet_add_same (between_f hb1 _)) | (with_reducible exact quiet_add_same (between_t hb2 _)) | (with_reducible exact quiet_add_same (between_f hb2 _))))
            go_wp2_with fail
            go_ret
            first | exact rtPost.no (hb0.out.trans (below_dn _ _ _)) | exact rtPost.no (hb0.out.trans ((below_dn _ _ _).trans (below_dn _ _ _)))
        cases hb2 : btB g (-1) 4
        · as_aux_lemma =>
            go_wp2_with fail
            go_quiet ((go_at_call 78; first | (with_reducible exact quiet_add_same (between_t hb1 _)) | (with_reducible exact quiet_add_same (between_f hb1 _)) | (with_reducible exact quiet_add_same (between_t hb2 _)) | (with_reducible exact quiet_add_same (between_f hb2 _))))
            go_wp2_with fail
            go_ret
            first | exact rtPost.no (hb0.out.trans (below_dn _ _ _)) | exact rtPost.no (hb0.out.trans ((below_dn _ _ _).trans (below_dn _ _ _)))
        · have HS := Lib.hid (HS.out (btB_t hb1) (btB_t hb2))
          as_aux_lemma =>
            go_wp2_with fail
            go_quiet ((go_at_call 78; first | (with_reducible exact quiet_add_same (between_t hb1 _)) | (with_reducible exact quiet_add_same (between_f hb1 _)) | (with_reducible exact quiet_add_same (between_t hb2 _)) | (with_reducible exact quiet_add_same (between_f hb2 _))))
            go_wp2_with fail
            go_roundw
            case rel => exact ⟨0 + 1, q + nq, by omega, by go_num, by simp, HS⟩
            case measure => simp [intOf]; omega
      · obtain ⟨j1, rfl⟩ : ∃ j1, j = j1 + 1 := ⟨j - 1, by omega⟩
        have cp := hca j1 (by omega)
        clear hca hcd
        generalize xF (j1 + 1) = u at *
        generalize xF j1 = p at *
        generalize xG (j1 + 1) = g at *
        have hpos : (0 : Int) < (j1 : Int) + 1 := by omega
        have hsub : IntKind.i64.wrap ((j1 : Int) + 1 - 1) = (j1 : Int) := by rw [IntWalk.i64_in _ (by omega)]; omega
        have hcast : ((j1 + 1 : Nat) : Int) = (j1 : Int) + 1 := by omega
        cases hb1 : btB u 0 199
        · as_aux_lemma =>
            go_wp2_with fail
            go_quiet ((go_at_call 78; first | (with_reducible exact quiet_add_same (between_t hb1 _)) | (with_reducible exact quiet_add_same (between_f hb1 _)) | (with_reducible exact quiet_add_same (between_t hb2 _)) | (with_reducible exact quiet_add_same (between_f hb2 _))))
            go_wp2_with fail
            go_ret
            first | exact rtPost.no (hb0.out.trans (below_dn _ _ _)) | exact rtPost.no (hb0.out.trans ((below_dn _ _ _).trans (below_dn _ _ _)))
        have hl := btB_t hb1
        by_cases hpu : u ≤ p
        · as_aux_lemma =>
            go_wp2_with fail
            go_quiet ((go_at_call 78; first | (with_reducible exact quiet_add_same (between_t hb1 _)) | (with_reducible exact quiet_add_same (between_f hb1 _)) | (with_reducible exact quiet_add_same (between_t hb2 _)) | (with_reducible exact quiet_add_same (between_f hb2 _))))
            go_wp2_with fail
            go_ret
            first | exact rtPost.no (hb0.out.trans (below_dn _ _ _)) | exact rtPost.no (hb0.out.trans ((below_dn _ _ _).trans (below_dn _ _ _)))
        have hpu1 : p < u := by omega
        have hpu2 : decide (u ≤ p) = false := decide_eq_false hpu
        clear hpu
        cases hb2 : btB g (-1) 4
        · as_aux_lemma =>
            go_wp2_with fail
            go_quiet ((go_at_call 78; first | (with_reducible exact quiet_add_same (between_t hb1 _)) | (with_reducible exact quiet_add_same (between_f hb1 _)) | (with_reducible exact quiet_add_same (between_t hb2 _)) | (with_reducible exact quiet_add_same (between_f hb2 _))))
            go_wp2_with fail
            go_ret
            first | exact rtPost.no (hb0.out.trans (below_dn _ _ _)) | exact rtPost.no (hb0.out.trans ((below_dn _ _ _).trans (below_dn _ _ _)))
        · have HS := Lib.hid (HS.out (btB_t hb1) (btB_t hb2))
          as_aux_lemma =>
            go_wp2_with fail
            go_quiet ((go_at_call 78; first | (with_reducible exact quiet_add_same (between_t hb1 _)) | (with_reducible exact quiet_add_same (between_f hb1 _)) | (with_reducible exact quiet_add_same (between_t hb2 _)) | (with_reducible exact quiet_add_same (between_f hb2 _))))
            go_wp2_with fail
            go_roundw
            case rel => exact ⟨j1 + 1 + 1, q + nq, by omega, by go_num, by simp, HS⟩
            case measure => simp [intOf]; omega
    · obtain rfl : j = xm := by omega
      have hlt' : ¬ (j : Int) < j := by omega
      go_wp2_with fail
      cases h_x0 : btB x0 1 100
      · as_aux_lemma =>
          refine (between_f h_x0 _).mono ?_
          rintro e w1 ⟨rfl, rfl⟩
          go_wp2_with fail
          go_ret
          exact rtPost.no (hb0.out.trans (below_dn _ _ _))
      refine (between_t h_x0 _).mono ?_
      rintro e w1 ⟨rfl, rfl⟩
      replace h_x0 := Lib.hid h_x0
      go_wp2_with fail
      cases h_x1 : btB x1 0 19
      · as_aux_lemma =>
          refine (between_f h_x1 _).mono ?_
          rintro e w1 ⟨rfl, rfl⟩
          go_wp2_with fail
          go_ret
          exact rtPost.no (hb0.out.trans (below_dn _ _ _))
      refine (between_t h_x1 _).mono ?_
      rintro e w1 ⟨rfl, rfl⟩
      replace h_x1 := Lib.hid h_x1
      go_wp2_with fail
      cases h_x2 : btB x2 0 3
      · as_aux_lemma =>
          refine (between_f h_x2 _).mono ?_
          rintro e w1 ⟨rfl, rfl⟩
          go_wp2_with fail
          go_ret
          exact rtPost.no (hb0.out.trans (below_dn _ _ _))
      refine (between_t h_x2 _).mono ?_
      rintro e w1 ⟨rfl, rfl⟩
      replace h_x2 := Lib.hid h_x2
      go_wp2_with fail
      cases h_x3 : btB x3 0 1000
      · as_aux_lemma =>
          refine (between_f h_x3 _).mono ?_
          rintro e w1 ⟨rfl, rfl⟩
          go_wp2_with fail
          go_ret
          exact rtPost.no (hb0.out.trans (below_dn _ _ _))
      refine (between_t h_x3 _).mono ?_
      rintro e w1 ⟨rfl, rfl⟩
      replace h_x3 := Lib.hid h_x3
      go_wp2_with fail
      cases h_x4 : btB x4 (-1) 199
      · as_aux_lemma =>
          refine (between_f h_x4 _).mono ?_
          rintro e w1 ⟨rfl, rfl⟩
          go_wp2_with fail
          go_ret
          exact rtPost.no (hb0.out.trans (below_dn _ _ _))
      refine (between_t h_x4 _).mono ?_
      rintro e w1 ⟨rfl, rfl⟩
      replace h_x4 := Lib.hid h_x4
      go_wp2_with fail
      cases h_x6 : btB x6 1 9
      · as_aux_lemma =>
          refine (between_f h_x6 _).mono ?_
          rintro e w1 ⟨rfl, rfl⟩
          go_wp2_with fail
          go_ret
          exact rtPost.no (hb0.out.trans (below_dn _ _ _))
      refine (between_t h_x6 _).mono ?_
      rintro e w1 ⟨rfl, rfl⟩
      replace h_x6 := Lib.hid h_x6
      go_wp2_with fail
      cases h_x7 : btB x7 0 100000
      · as_aux_lemma =>
          refine (between_f h_x7 _).mono ?_
          rintro e w1 ⟨rfl, rfl⟩
          go_wp2_with fail
          go_ret
          exact rtPost.no (hb0.out.trans (below_dn _ _ _))
      refine (between_t h_x7 _).mono ?_
      rintro e w1 ⟨rfl, rfl⟩
      replace h_x7 := Lib.hid h_x7
      go_wp2_with fail
      cases h_x10 : ctB x10
      · as_aux_lemma =>
          refine (cents_f h_x10 _).mono ?_
          rintro e w1 ⟨rfl, rfl⟩
          go_wp2_with fail
          go_ret
          exact rtPost.no (hb0.out.trans (below_dn _ _ _))
      refine (cents_t h_x10 _).mono ?_
      rintro e w1 ⟨rfl, rfl⟩
      replace h_x10 := Lib.hid h_x10
      go_wp2_with fail
      cases h_x11 : ctB x11
      · as_aux_lemma =>
          refine (cents_f h_x11 _).mono ?_
          rintro e w1 ⟨rfl, rfl⟩
          go_wp2_with fail
          go_ret
          exact rtPost.no (hb0.out.trans (below_dn _ _ _))
      refine (cents_t h_x11 _).mono ?_
      rintro e w1 ⟨rfl, rfl⟩
      replace h_x11 := Lib.hid h_x11
      go_wp2_with fail
      cases h_x12 : ctB x12
      · as_aux_lemma =>
          refine (cents_f h_x12 _).mono ?_
          rintro e w1 ⟨rfl, rfl⟩
          go_wp2_with fail
          go_ret
          exact rtPost.no (hb0.out.trans (below_dn _ _ _))
      refine (cents_t h_x12 _).mono ?_
      rintro e w1 ⟨rfl, rfl⟩
      replace h_x12 := Lib.hid h_x12
      go_wp2_with fail
      cases h_x13 : ctB x13
      · as_aux_lemma =>
          refine (cents_f h_x13 _).mono ?_
          rintro e w1 ⟨rfl, rfl⟩
          go_wp2_with fail
          go_ret
          exact rtPost.no (hb0.out.trans (below_dn _ _ _))
      refine (cents_t h_x13 _).mono ?_
      rintro e w1 ⟨rfl, rfl⟩
      replace h_x13 := Lib.hid h_x13
      go_wp2_with fail
      go_ret
      have hn' := hN'.out
      refine ⟨true, rfl, fun _ => ?_, hb0.out.trans (below_dn _ _ _)⟩
      rw [← hR.out]
      exact ⟨by omega, by omega, rfl, hS.out, btB_t h_x0.out, btB_t h_x1.out, btB_t h_x2.out, btB_t h_x3.out, btB_t h_x4.out, btB_t h_x6.out, btB_t h_x7.out, of_decide_eq_true h_x10.out, of_decide_eq_true h_x11.out, of_decide_eq_true h_x12.out, of_decide_eq_true h_x13.out⟩

end Go.Proofs.Ytnkgbigjpihfeaa.Kd
