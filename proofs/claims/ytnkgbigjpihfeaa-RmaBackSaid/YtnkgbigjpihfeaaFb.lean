/- rma.Put at every return. -/
import Derived.Test.YtnkgbigjpihfeaaFa
import Derived.Test.YtnkgbigjpihfeaaDb
set_option linter.unusedVariables false
set_option linter.unusedSimpArgs false
namespace Go.Proofs.Ytnkgbigjpihfeaa.Kd
open Go.RowKit Go.Proofs.Ytnkgbigjpihfeaa.Lib
open Go.Proofs.Ytnkgbigjpihfeaa.Ma (alloc_keep alloc_at)

theorem i64_st {w : World} {O : Nat} {v : Value} {ps : List (Int × Nat)} (h : OutS w O v ps) (x : Int) (hp : fewP ps) : Calls Try.prog 64 #[.pointer (some ⟨O, 0, none⟩), .int .i64 x] w fun e w' => putS w O v (ps ++ [(wd8 x, 8)]) e w' := by
  have := i64_s h x hp.len
  have e : st (ps ++ [(wd8 x, 8)]) = (if (st ps).2 = true then (st ps).1 else (st ps).1 ++ leB (x % 18446744073709551616) 8, (st ps).2) := by
    rw [st_snoc]
    unfold smallL wd8
    cases hb : (st ps).2
    · rw [if_neg (by simp), if_neg (by rw [p8]; omega)]
      simp
    · simp
  unfold putS OutS
  rw [e]
  exact this

/-- Much is put into the box O; the blocks Pr are as they were. -/
structure PS (W : World) (O : Nat) (Pr : Nat → Prop) (v : Value) (ps : List (Int × Nat)) (wr : World) : Prop where
  out : OutS wr O v ps
  own : ∀ g, v.ownBlock = some g → ¬ Pr g
  pl : ∀ k, Pr k → k < W.heap.size ∧ k ≠ O
  fr : ∀ k, Pr k → wr.heap[k]? = W.heap[k]?
  bel : Below O W wr

theorem PS.next {W wr w2 : World} {O : Nat} {Pr : Nat → Prop} {v v2 : Value} {ps qs : List (Int × Nat)} (h : PS W O Pr v ps wr) (ho : OutS w2 O v2 qs) (k : Put wr O v w2 v2) : PS W O Pr v2 qs w2 := by
  refine ⟨ho, fun g hg hp => ?_, h.pl, fun i hi => ?_, h.bel.trans (k.below h.out)⟩
  · rcases k.own g hg with e | e
    · exact h.own g e hp
    · have := (h.pl g hp).1
      have := h.bel.size
      omega
  · have hp := h.pl i hi
    refine (k.only i (Nat.lt_of_lt_of_le hp.1 h.bel.size) hp.2 (fun e => h.own i e.symm hi)).trans (h.fr i hi)

theorem PS.ints {W wr : World} {O n : Nat} {Pr : Nat → Prop} {v : Value} {ps : List (Int × Nat)} {k : IntKind} {a : Option Addr} {F : Nat → Int} (h : PS W O Pr v ps wr) (hi : IntsAt W k a n F) (hp : ∀ p, a = some p → Pr p.block) : IntsAt wr k a n F := by
  refine ⟨hi.1, fun hn => ?_⟩
  obtain ⟨b, o, rfl, hb, hc⟩ := hi.2 hn
  exact ⟨b, o, rfl, Nat.lt_of_lt_of_le hb h.bel.size, fun j hj => (World.cell?_of_block (a := ⟨b, o + j, none⟩) (h.fr b (hp _ rfl))).trans (hc j hj)⟩

/-- One more block is made, that stays. -/
theorem PS.alloc {W wr : World} {O : Nat} {Pr : Nat → Prop} {v : Value} {ps : List (Int × Nat)} (h : PS W O Pr v ps wr) (ob : Obj) (hO : O < W.heap.size) : PS (wr.alloc ob) O (fun k => Pr k ∨ k = wr.heap.size) v ps (wr.alloc ob) := by
  have hs := h.bel.size
  refine ⟨⟨alloc_keep h.out.box, h.out.row.alloc ob⟩, fun g hg hp => ?_, fun k hk => ?_, fun k _ => rfl, Below.refl _ _⟩
  · rcases hp with e | e
    · exact h.own g hg e
    · have := (h.out.row.lt g hg).2
      omega
  · rcases hk with e | e
    · have := h.pl k e
      exact ⟨by simp; omega, this.2⟩
    · exact ⟨by simp; omega, by omega⟩

/-- What Put leaves. -/
def putR (ps : List (Int × Nat)) (O : Nat) (w : World) (e : Ending) (w' : World) : Prop := e = .returned (.tuple #[]) ∧ ∃ v', OutS w' O v' ps ∧ Below O w w'

theorem rbox_cells (x0 x1 x2 x3 x4 x6 x7 x10 x11 x12 x13 : Int) (x5 : Bool) (xa xd : Option Addr) (xn xc xm xe : Nat) (xF xG : Nat → Int) {w : World} {b : Nat} {t : TypeId} (h : w.heap[b]? = some (.cells #[.int .i64 x0, .int .i64 x1, .int .i64 x2, .int .i64 x3, .int .i64 x4, .bool x5, .int .i64 x6, .int .i64 x7, .slice xa xn xc, .slice xd xm xe, .int .i64 x10, .int .i64 x11, .int .i64 x12, .int .i64 x13] t (0, 0))) : w.cell? ⟨b, 0, none⟩ = some (.int .i64 x0) ∧ w.cell? ⟨b, 1, none⟩ = some (.int .i64 x1) ∧ w.cell? ⟨b, 2, none⟩ = some (.int .i64 x2) ∧ w.cell? ⟨b, 3, none⟩ = some (.int .i64 x3) ∧ w.cell? ⟨b, 4, none⟩ = some (.int .i64 x4) ∧ w.cell? ⟨b, 5, none⟩ = some (.bool x5) ∧ w.cell? ⟨b, 6, none⟩ = some (.int .i64 x6) ∧ w.cell? ⟨b, 7, none⟩ = some (.int .i64 x7) ∧ w.cell? ⟨b, 8, none⟩ = some (.slice xa xn xc) ∧ w.cell? ⟨b, 9, none⟩ = some (.slice xd xm xe) ∧ w.cell? ⟨b, 10, none⟩ = some (.int .i64 x10) ∧ w.cell? ⟨b, 11, none⟩ = some (.int .i64 x11) ∧ w.cell? ⟨b, 12, none⟩ = some (.int .i64 x12) ∧ w.cell? ⟨b, 13, none⟩ = some (.int .i64 x13) := by simp [World.cell?, h]

theorem wrap_lt (x : Int) : wrap64 x < 9223372036854775808 := by unfold wrap64; omega

set_option maxRecDepth 100000 in
set_option maxHeartbeats 6400000 in
theorem rput_any (x0 x1 x2 x3 x4 x6 x7 x10 x11 x12 x13 : Int) (x5 : Bool) (xa xd : Option Addr) (xn xc xm xe : Nat) (xF xG : Nat → Int) (w : World) (O : Nat) (h : OutS w O (.slice none 0 0) []) (b0 : x0 < 9223372036854775808) (b1 : x1 < 9223372036854775808) (b2 : x2 < 9223372036854775808) (b3 : x3 < 9223372036854775808) (b6 : x6 < 9223372036854775808) (b7 : x7 < 9223372036854775808) (hx : IntsAt w .i64 xa xn xF) (hy : IntsAt w .i64 xd xm xG) (hfx : 0 < xn → ∀ p, xa = some p → p.block ≠ O) (hfy : 0 < xm → ∀ p, xd = some p → p.block ≠ O) (hn : xn ≤ 1000) (hm : xm ≤ 1000) (hXF : ∀ j, j < xn → xF j < 9223372036854775808) :
    Calls Try.prog 54 #[.pointer (some ⟨O, 0, none⟩), .agg #[.int .i64 x0, .int .i64 x1, .int .i64 x2, .int .i64 x3, .int .i64 x4, .bool x5, .int .i64 x6, .int .i64 x7, .slice xa xn xc, .slice xd xm xe, .int .i64 x10, .int .i64 x11, .int .i64 x12, .int .i64 x13]] w fun e w' => putR (rmP x0 x1 x2 x3 x4 x6 x7 x10 x11 x12 x13 x5 ((List.range xn).map xF) ((List.range xm).map xG)) O w e w' := by
  have hOl : O < w.heap.size := (show OutAt w O _ _ _ from h).lt
  have hb0 : Below O w (w.alloc (.cells #[.int .i64 x0, .int .i64 x1, .int .i64 x2, .int .i64 x3, .int .i64 x4, .bool x5, .int .i64 x6, .int .i64 x7, .slice xa xn xc, .slice xd xm xe, .int .i64 x10, .int .i64 x11, .int .i64 x12, .int .i64 x13] 76)) := (Below.refl _ _).alloc (Nat.le_of_lt hOl) _
  have hB0 : (w.alloc (.cells #[.int .i64 x0, .int .i64 x1, .int .i64 x2, .int .i64 x3, .int .i64 x4, .bool x5, .int .i64 x6, .int .i64 x7, .slice xa xn xc, .slice xd xm xe, .int .i64 x10, .int .i64 x11, .int .i64 x12, .int .i64 x13] 76)).heap[w.heap.size]? = some (.cells #[.int .i64 x0, .int .i64 x1, .int .i64 x2, .int .i64 x3, .int .i64 x4, .bool x5, .int .i64 x6, .int .i64 x7, .slice xa xn xc, .slice xd xm xe, .int .i64 x10, .int .i64 x11, .int .i64 x12, .int .i64 x13] 76 (0, 0)) := heap_alloc_new _ _
  have hs0 : (w.alloc (.cells #[.int .i64 x0, .int .i64 x1, .int .i64 x2, .int .i64 x3, .int .i64 x4, .bool x5, .int .i64 x6, .int .i64 x7, .slice xa xn xc, .slice xd xm xe, .int .i64 x10, .int .i64 x11, .int .i64 x12, .int .i64 x13] 76)).heap.size = w.heap.size + 1 := by simp
  have hx0 := Ma.ints_alloc hx (.cells #[.int .i64 x0, .int .i64 x1, .int .i64 x2, .int .i64 x3, .int .i64 x4, .bool x5, .int .i64 x6, .int .i64 x7, .slice xa xn xc, .slice xd xm xe, .int .i64 x10, .int .i64 x11, .int .i64 x12, .int .i64 x13] 76)
  have hy0 := Ma.ints_alloc hy (.cells #[.int .i64 x0, .int .i64 x1, .int .i64 x2, .int .i64 x3, .int .i64 x4, .bool x5, .int .i64 x6, .int .i64 x7, .slice xa xn xc, .slice xd xm xe, .int .i64 x10, .int .i64 x11, .int .i64 x12, .int .i64 x13] 76)
  have hP0 : PS (w.alloc (.cells #[.int .i64 x0, .int .i64 x1, .int .i64 x2, .int .i64 x3, .int .i64 x4, .bool x5, .int .i64 x6, .int .i64 x7, .slice xa xn xc, .slice xd xm xe, .int .i64 x10, .int .i64 x11, .int .i64 x12, .int .i64 x13] 76)) O (fun k => k < w.heap.size + 1 ∧ k ≠ O) (.slice none 0 0) [] (w.alloc (.cells #[.int .i64 x0, .int .i64 x1, .int .i64 x2, .int .i64 x3, .int .i64 x4, .bool x5, .int .i64 x6, .int .i64 x7, .slice xa xn xc, .slice xd xm xe, .int .i64 x10, .int .i64 x11, .int .i64 x12, .int .i64 x13] 76)) :=
    ⟨⟨alloc_keep (show OutAt w O _ _ _ from h).box, (show OutAt w O _ _ _ from h).row.alloc _⟩, (fun g e => by cases e), fun k hk => ⟨by rw [hs0]; exact hk.1, hk.2⟩, fun _ _ => rfl, Below.refl _ _⟩
  have hP := Lib.hid hP0
  have hF : Hid (fewP []) := Lib.hid ⟨by simp, by simp⟩
  have hXl : ∀ p, xa = some p → 0 < xn → p.block < w.heap.size := fun p e hp => by
    obtain ⟨b, o, e2, hb, _⟩ := hx.2 hp
    rw [e] at e2
    cases e2
    exact hb
  have hYl : ∀ p, xd = some p → 0 < xm → p.block < w.heap.size := fun p e hp => by
    obtain ⟨b, o, e2, hb, _⟩ := hy.2 hp
    rw [e] at e2
    cases e2
    exact hb
  have HX : Hid (∀ {v : Value} {ps : List (Int × Nat)} {wr : World}, PS (w.alloc (.cells #[.int .i64 x0, .int .i64 x1, .int .i64 x2, .int .i64 x3, .int .i64 x4, .bool x5, .int .i64 x6, .int .i64 x7, .slice xa xn xc, .slice xd xm xe, .int .i64 x10, .int .i64 x11, .int .i64 x12, .int .i64 x13] 76)) O (fun k => k < w.heap.size + 1 ∧ k ≠ O) v ps wr → 0 < xn → IntsAt wr .i64 xa xn xF) := Lib.hid (fun hp h0 => hp.ints hx0 (fun p e => ⟨by have := hXl p e h0; omega, hfx h0 p e⟩))
  have HY : Hid (∀ {v : Value} {ps : List (Int × Nat)} {wr : World}, PS (w.alloc (.cells #[.int .i64 x0, .int .i64 x1, .int .i64 x2, .int .i64 x3, .int .i64 x4, .bool x5, .int .i64 x6, .int .i64 x7, .slice xa xn xc, .slice xd xm xe, .int .i64 x10, .int .i64 x11, .int .i64 x12, .int .i64 x13] 76)) O (fun k => k < w.heap.size + 1 ∧ k ≠ O) v ps wr → 0 < xm → IntsAt wr .i64 xd xm xG) := Lib.hid (fun hp h0 => hp.ints hy0 (fun p e => ⟨by have := hYl p e h0; omega, hfy h0 p e⟩))
  have KC : Hid (∀ {v : Value} {ps : List (Int × Nat)} (wr : World), PS (w.alloc (.cells #[.int .i64 x0, .int .i64 x1, .int .i64 x2, .int .i64 x3, .int .i64 x4, .bool x5, .int .i64 x6, .int .i64 x7, .slice xa xn xc, .slice xd xm xe, .int .i64 x10, .int .i64 x11, .int .i64 x12, .int .i64 x13] 76)) O (fun k => k < w.heap.size + 1 ∧ k ≠ O) v ps wr → wr.cell? ⟨w.heap.size, 0, none⟩ = some (.int .i64 x0) ∧ wr.cell? ⟨w.heap.size, 1, none⟩ = some (.int .i64 x1) ∧ wr.cell? ⟨w.heap.size, 2, none⟩ = some (.int .i64 x2) ∧ wr.cell? ⟨w.heap.size, 3, none⟩ = some (.int .i64 x3) ∧ wr.cell? ⟨w.heap.size, 4, none⟩ = some (.int .i64 x4) ∧ wr.cell? ⟨w.heap.size, 5, none⟩ = some (.bool x5) ∧ wr.cell? ⟨w.heap.size, 6, none⟩ = some (.int .i64 x6) ∧ wr.cell? ⟨w.heap.size, 7, none⟩ = some (.int .i64 x7) ∧ wr.cell? ⟨w.heap.size, 8, none⟩ = some (.slice xa xn xc) ∧ wr.cell? ⟨w.heap.size, 9, none⟩ = some (.slice xd xm xe) ∧ wr.cell? ⟨w.heap.size, 10, none⟩ = some (.int .i64 x10) ∧ wr.cell? ⟨w.heap.size, 11, none⟩ = some (.int .i64 x11) ∧ wr.cell? ⟨w.heap.size, 12, none⟩ = some (.int .i64 x12) ∧ wr.cell? ⟨w.heap.size, 13, none⟩ = some (.int .i64 x13)) := Lib.hid (fun wr hp => rbox_cells x0 x1 x2 x3 x4 x6 x7 x10 x11 x12 x13 x5 xa xd xn xc xm xe xF xG ((hp.fr w.heap.size ⟨by omega, by omega⟩).trans hB0))
  replace hXF := Lib.hid hXF
  replace hb0 := Lib.hid hb0
  replace hs0 := Lib.hid hs0
  clear h hx hy hfx hfy hx0 hy0 hP0 hXl hYl hB0
  have hn63 : (xn : Int) < 9223372036854775808 := by omega
  go_enter Try.func54, Try.ntmps54
  go_upto_region 1 with fail
  generalize w.alloc (.cells #[.int .i64 x0, .int .i64 x1, .int .i64 x2, .int .i64 x3, .int .i64 x4, .bool x5, .int .i64 x6, .int .i64 x7, .slice xa xn xc, .slice xd xm xe, .int .i64 x10, .int .i64 x11, .int .i64 x12, .int .i64 x13] 76) = W at *
  obtain ⟨k0, k1, k2, k3, k4, k5, k6, k7, k8, k9, k10, k11, k12, k13⟩ := KC.out _ hP.out
  go_wp2_with fail
  refine (u8_st hP.out.out x0 b0 hF.out).mono ?_
  rintro e w1 ⟨rfl, v1, q1, p1⟩
  replace hP := Lib.hid (hP.out.next q1 p1)
  replace hF := Lib.hid (hF.out.snoc (x := x0) (k := 1) (show 1 ≤ 8 by decide) (by simp))
  clear k0 k1 k2 k3 k4 k5 k6 k7 k8 k9 k10 k11 k12 k13
  obtain ⟨k0, k1, k2, k3, k4, k5, k6, k7, k8, k9, k10, k11, k12, k13⟩ := KC.out _ hP.out
  clear q1 p1
  go_wp2_with fail
  refine (u8_st hP.out.out x1 b1 hF.out).mono ?_
  rintro e w2 ⟨rfl, v2, q2, p2⟩
  replace hP := Lib.hid (hP.out.next q2 p2)
  replace hF := Lib.hid (hF.out.snoc (x := x1) (k := 1) (show 1 ≤ 8 by decide) (by simp))
  clear k0 k1 k2 k3 k4 k5 k6 k7 k8 k9 k10 k11 k12 k13
  obtain ⟨k0, k1, k2, k3, k4, k5, k6, k7, k8, k9, k10, k11, k12, k13⟩ := KC.out _ hP.out
  clear q2 p2
  go_wp2_with fail
  refine (u8_st hP.out.out x2 b2 hF.out).mono ?_
  rintro e w3 ⟨rfl, v3, q3, p3⟩
  replace hP := Lib.hid (hP.out.next q3 p3)
  replace hF := Lib.hid (hF.out.snoc (x := x2) (k := 1) (show 1 ≤ 8 by decide) (by simp))
  clear k0 k1 k2 k3 k4 k5 k6 k7 k8 k9 k10 k11 k12 k13
  obtain ⟨k0, k1, k2, k3, k4, k5, k6, k7, k8, k9, k10, k11, k12, k13⟩ := KC.out _ hP.out
  clear q3 p3
  go_wp2_with fail
  refine (u16_st hP.out.out x3 b3 hF.out).mono ?_
  rintro e w4 ⟨rfl, v4, q4, p4⟩
  replace hP := Lib.hid (hP.out.next q4 p4)
  replace hF := Lib.hid (hF.out.snoc (x := x3) (k := 2) (show 2 ≤ 8 by decide) (by simp))
  clear k0 k1 k2 k3 k4 k5 k6 k7 k8 k9 k10 k11 k12 k13
  obtain ⟨k0, k1, k2, k3, k4, k5, k6, k7, k8, k9, k10, k11, k12, k13⟩ := KC.out _ hP.out
  clear q4 p4
  go_wp2_with fail
  refine (u16_st hP.out.out (wrap64 (x4 + 1)) (wrap_lt _) hF.out).mono ?_
  rintro e w5 ⟨rfl, v5, q5, p5⟩
  replace hP := Lib.hid (hP.out.next q5 p5)
  replace hF := Lib.hid (hF.out.snoc (x := (wrap64 (x4 + 1))) (k := 2) (show 2 ≤ 8 by decide) (by simp))
  clear k0 k1 k2 k3 k4 k5 k6 k7 k8 k9 k10 k11 k12 k13
  obtain ⟨k0, k1, k2, k3, k4, k5, k6, k7, k8, k9, k10, k11, k12, k13⟩ := KC.out _ hP.out
  clear q5 p5
  go_wp2_with fail
  refine (flag_st hP.out.out x5 hF.out).mono ?_
  rintro e w6 ⟨rfl, v6, q6, p6⟩
  replace hP := Lib.hid (hP.out.next q6 p6)
  replace hF := Lib.hid (hF.out.snoc (x := fl x5) (k := 1) (show 1 ≤ 8 by decide) (by simp))
  clear k0 k1 k2 k3 k4 k5 k6 k7 k8 k9 k10 k11 k12 k13
  obtain ⟨k0, k1, k2, k3, k4, k5, k6, k7, k8, k9, k10, k11, k12, k13⟩ := KC.out _ hP.out
  clear q6 p6
  go_wp2_with fail
  refine (u8_st hP.out.out x6 b6 hF.out).mono ?_
  rintro e w7 ⟨rfl, v7, q7, p7⟩
  replace hP := Lib.hid (hP.out.next q7 p7)
  replace hF := Lib.hid (hF.out.snoc (x := x6) (k := 1) (show 1 ≤ 8 by decide) (by simp))
  clear k0 k1 k2 k3 k4 k5 k6 k7 k8 k9 k10 k11 k12 k13
  obtain ⟨k0, k1, k2, k3, k4, k5, k6, k7, k8, k9, k10, k11, k12, k13⟩ := KC.out _ hP.out
  clear q7 p7
  go_wp2_with fail
  refine (u32_st hP.out.out x7 b7 hF.out).mono ?_
  rintro e w8 ⟨rfl, v8, q8, p8⟩
  replace hP := Lib.hid (hP.out.next q8 p8)
  replace hF := Lib.hid (hF.out.snoc (x := x7) (k := 4) (show 4 ≤ 8 by decide) (by simp))
  clear k0 k1 k2 k3 k4 k5 k6 k7 k8 k9 k10 k11 k12 k13
  obtain ⟨k0, k1, k2, k3, k4, k5, k6, k7, k8, k9, k10, k11, k12, k13⟩ := KC.out _ hP.out
  clear q8 p8
  go_wp2_with fail
  refine (u16_st hP.out.out (xn : Int) hn63 hF.out).mono ?_
  rintro e w9 ⟨rfl, v9, q9, p9⟩
  replace hP := Lib.hid (hP.out.next q9 p9)
  replace hF := Lib.hid (hF.out.snoc (x := (xn : Int)) (k := 2) (show 2 ≤ 8 by decide) (by simp))
  clear k0 k1 k2 k3 k4 k5 k6 k7 k8 k9 k10 k11 k12 k13
  obtain ⟨k0, k1, k2, k3, k4, k5, k6, k7, k8, k9, k10, k11, k12, k13⟩ := KC.out _ hP.out
  clear q9 p9
  go_wp2_with fail
  go_loopw [51] (fun i wr => ∃ (j : Nat) (v : Value), j ≤ xn ∧ i = .int .i64 j ∧ Hid (PS W O (fun k => k < w.heap.size + 1 ∧ k ≠ O) v ([] ++ [(x0, 1)] ++ [(x1, 1)] ++ [(x2, 1)] ++ [(x3, 2)] ++ [(wrap64 (x4 + 1), 2)] ++ [(fl x5, 1)] ++ [(x6, 1)] ++ [(x7, 4)] ++ [((xn : Int), 2)] ++ (List.range j).map (fun j => (xF j, 1))) wr) ∧ Hid (fewP ([] ++ [(x0, 1)] ++ [(x1, 1)] ++ [(x2, 1)] ++ [(x3, 2)] ++ [(wrap64 (x4 + 1), 2)] ++ [(fl x5, 1)] ++ [(x6, 1)] ++ [(x7, 4)] ++ [((xn : Int), 2)] ++ (List.range j).map (fun j => (xF j, 1))))) (fun i _ => xn - (intOf i).toNat)
  case atStart => exact ⟨0, _, Nat.zero_le _, rfl, Lib.hid (by simpa using hP.out), Lib.hid (by simpa using hF.out)⟩
  case round =>
    clear k0 k1 k2 k3 k4 k5 k6 k7 k8 k9 k10 k11 k12 k13 hP hF
    obtain ⟨j, v, hj, rfl, hP, hF⟩ := hrel
    obtain ⟨k0, k1, k2, k3, k4, k5, k6, k7, k8, k9, k10, k11, k12, k13⟩ := KC.out _ hP.out
    by_cases hlt : j < xn
    · have hlt' : (j : Int) < xn := by omega
      obtain ⟨b, off, rfl, hbb, hc⟩ := (HX.out hP.out (by omega)).2 (by omega)
      have cj := hc j hlt
      have h63 := hXF.out j hlt
      clear hc
      generalize hxj : xF j = xj at *
      replace hxj := Lib.hid hxj
      go_wp2_with fail
      refine (u8_st hP.out.out xj h63 hF.out).mono ?_
      rintro e w5 ⟨rfl, v5, q5, p5⟩
      replace hP := Lib.hid (hP.out.next q5 p5)
      replace hF := Lib.hid (hF.out.snoc (x := xj) (k := 1) (show 1 ≤ 8 by decide) (by simp; omega))
      have hE : [] ++ [(x0, 1)] ++ [(x1, 1)] ++ [(x2, 1)] ++ [(x3, 2)] ++ [(wrap64 (x4 + 1), 2)] ++ [(fl x5, 1)] ++ [(x6, 1)] ++ [(x7, 4)] ++ [((xn : Int), 2)] ++ (List.range j).map (fun j => (xF j, 1)) ++ [(xj, 1)] = [] ++ [(x0, 1)] ++ [(x1, 1)] ++ [(x2, 1)] ++ [(x3, 2)] ++ [(wrap64 (x4 + 1), 2)] ++ [(fl x5, 1)] ++ [(x6, 1)] ++ [(x7, 4)] ++ [((xn : Int), 2)] ++ (List.range (j + 1)).map (fun j => (xF j, 1)) := by rw [← hxj.out, List.range_succ]; simp
      rw [hE] at hP hF
      clear k0 k1 k2 k3 k4 k5 k6 k7 k8 k9 k10 k11 k12 k13 hE q5 p5
      go_wp2_with fail
      exact ⟨⟨j + 1, v5, by omega, by go_num, hP, hF⟩, by simp [intOf]; omega⟩
    · obtain rfl : j = xn := by omega
      have hlt' : ¬ (j : Int) < j := by omega
      go_wp2_with fail
      go_loopw [62] (fun i wr => ∃ (i2 : Nat) (v : Value), i2 ≤ xm ∧ i = .int .i64 i2 ∧ Hid (PS W O (fun k => k < w.heap.size + 1 ∧ k ≠ O) v ([] ++ [(x0, 1)] ++ [(x1, 1)] ++ [(x2, 1)] ++ [(x3, 2)] ++ [(wrap64 (x4 + 1), 2)] ++ [(fl x5, 1)] ++ [(x6, 1)] ++ [(x7, 4)] ++ [((j : Int), 2)] ++ (List.range j).map (fun j => (xF j, 1)) ++ (List.range i2).map (fun j => (wrap64 (xG j + 1), 1))) wr) ∧ Hid (fewP ([] ++ [(x0, 1)] ++ [(x1, 1)] ++ [(x2, 1)] ++ [(x3, 2)] ++ [(wrap64 (x4 + 1), 2)] ++ [(fl x5, 1)] ++ [(x6, 1)] ++ [(x7, 4)] ++ [((j : Int), 2)] ++ (List.range j).map (fun j => (xF j, 1)) ++ (List.range i2).map (fun j => (wrap64 (xG j + 1), 1))))) (fun i _ => xm - (intOf i).toNat)
      case atStart => exact ⟨0, _, Nat.zero_le _, rfl, Lib.hid (by simpa using hP.out), Lib.hid (by simpa using hF.out)⟩
      case round =>
        clear k0 k1 k2 k3 k4 k5 k6 k7 k8 k9 k10 k11 k12 k13 hP hF
        obtain ⟨i2, v, hi2, rfl, hP, hF⟩ := hrel
        obtain ⟨k0, k1, k2, k3, k4, k5, k6, k7, k8, k9, k10, k11, k12, k13⟩ := KC.out _ hP.out
        by_cases hlt2 : i2 < xm
        · have hlt2' : (i2 : Int) < xm := by omega
          obtain ⟨b, off, rfl, hbb, hc⟩ := (HY.out hP.out (by omega)).2 (by omega)
          have cj := hc i2 hlt2
          clear hc
          generalize hxj : xG i2 = xj at *
          replace hxj := Lib.hid hxj
          go_wp2_with fail
          refine (u8_st hP.out.out (wrap64 (xj + 1)) (wrap_lt _) hF.out).mono ?_
          rintro e w5 ⟨rfl, v5, q5, p5⟩
          replace hP := Lib.hid (hP.out.next q5 p5)
          replace hF := Lib.hid (hF.out.snoc (x := wrap64 (xj + 1)) (k := 1) (show 1 ≤ 8 by decide) (by simp; omega))
          have hE : [] ++ [(x0, 1)] ++ [(x1, 1)] ++ [(x2, 1)] ++ [(x3, 2)] ++ [(wrap64 (x4 + 1), 2)] ++ [(fl x5, 1)] ++ [(x6, 1)] ++ [(x7, 4)] ++ [((j : Int), 2)] ++ (List.range j).map (fun j => (xF j, 1)) ++ (List.range i2).map (fun j => (wrap64 (xG j + 1), 1)) ++ [(wrap64 (xj + 1), 1)] = [] ++ [(x0, 1)] ++ [(x1, 1)] ++ [(x2, 1)] ++ [(x3, 2)] ++ [(wrap64 (x4 + 1), 2)] ++ [(fl x5, 1)] ++ [(x6, 1)] ++ [(x7, 4)] ++ [((j : Int), 2)] ++ (List.range j).map (fun j => (xF j, 1)) ++ (List.range (i2 + 1)).map (fun j => (wrap64 (xG j + 1), 1)) := by rw [← hxj.out, List.range_succ (n := i2)]; simp
          rw [hE] at hP hF
          clear k0 k1 k2 k3 k4 k5 k6 k7 k8 k9 k10 k11 k12 k13 hE q5 p5
          go_wp2_with fail
          exact ⟨⟨i2 + 1, v5, by omega, by go_num, hP, hF⟩, by simp [intOf]; omega⟩
        · obtain rfl : i2 = xm := by omega
          have hlt2' : ¬ (i2 : Int) < i2 := by omega
          have hOW : O < W.heap.size := by rw [hs0.out]; omega
          have hbo := Lib.hid (hb0.out.trans hP.out.bel)
          have hP2 := Lib.hid (hP.out.alloc (.cells #[.int .i64 x10, .int .i64 x11, .int .i64 x12, .int .i64 x13] 2) hOW)
          have hS4 : Hid (∀ {v : Value} {ps : List (Int × Nat)} {w' : World}, PS (wr.alloc (.cells #[.int .i64 x10, .int .i64 x11, .int .i64 x12, .int .i64 x13] 2)) O (fun k => (k < w.heap.size + 1 ∧ k ≠ O) ∨ k = wr.heap.size) v ps w' → ∀ j, j < 4 → w'.cell? ⟨wr.heap.size, j, none⟩ = some (.int .i64 ([x10, x11, x12, x13].getD j 0))) := Lib.hid (fun hp j hj => by
            have := (hp.fr wr.heap.size (Or.inr rfl)).trans (heap_alloc_new _ _)
            simp only [World.cell?, this]
            have : j = 0 ∨ j = 1 ∨ j = 2 ∨ j = 3 := by omega
            rcases this with rfl | rfl | rfl | rfl <;> rfl)
          have hF4 : ∀ k, k < 4 → True := fun _ _ => trivial
          obtain ⟨F4, hF4⟩ : ∃ F4 : Nat → Int, (fun j => [x10, x11, x12, x13].getD j 0) = F4 := ⟨_, rfl⟩
          have hS5 : Hid (∀ {v : Value} {ps : List (Int × Nat)} {w' : World}, PS (wr.alloc (.cells #[.int .i64 x10, .int .i64 x11, .int .i64 x12, .int .i64 x13] 2)) O (fun k => (k < w.heap.size + 1 ∧ k ≠ O) ∨ k = wr.heap.size) v ps w' → ∀ j, j < 4 → w'.cell? ⟨wr.heap.size, j, none⟩ = some (.int .i64 (F4 j))) := Lib.hid (fun hp j hj => by
            rw [← hF4]
            exact hS4.out hp j hj)
          have hE0 : rmP x0 x1 x2 x3 x4 x6 x7 x10 x11 x12 x13 x5 ((List.range j).map xF) ((List.range i2).map xG) = [] ++ [(x0, 1)] ++ [(x1, 1)] ++ [(x2, 1)] ++ [(x3, 2)] ++ [(wrap64 (x4 + 1), 2)] ++ [(fl x5, 1)] ++ [(x6, 1)] ++ [(x7, 4)] ++ [((j : Int), 2)] ++ (List.range j).map (fun j => (xF j, 1)) ++ (List.range i2).map (fun j => (wrap64 (xG j + 1), 1)) ++ (List.range 4).map (fun j => (wd8 (F4 j), 8)) := by
            rw [← hF4, show List.range 4 = [0, 1, 2, 3] from rfl]
            simp [rmP, Function.comp_def]
          replace hE0 := Lib.hid hE0
          replace hF4 := Lib.hid hF4
          clear hP hS4
          go_wp2_with fail
          clear k0 k1 k2 k3 k4 k5 k6 k7 k8 k9 k10 k11 k12 k13
          generalize hwz : wr.alloc (.cells #[.int .i64 x10, .int .i64 x11, .int .i64 x12, .int .i64 x13] 2) = wz at *
          replace hwz := Lib.hid hwz
          generalize wr.heap.size = S4 at *
          have hbz : Below O wr wz := by rw [← hwz.out]; exact (Below.refl _ _).alloc (by have := hbo.out.size; omega) _
          replace hbz := Lib.hid (hbo.out.trans hbz)
          clear hwz hbo
          go_loopw [81] (fun i wq => ∃ (i3 : Nat) (v : Value), i3 ≤ 4 ∧ i = .int .i64 i3 ∧ Hid (PS wz O (fun k => (k < w.heap.size + 1 ∧ k ≠ O) ∨ k = S4) v ([] ++ [(x0, 1)] ++ [(x1, 1)] ++ [(x2, 1)] ++ [(x3, 2)] ++ [(wrap64 (x4 + 1), 2)] ++ [(fl x5, 1)] ++ [(x6, 1)] ++ [(x7, 4)] ++ [((j : Int), 2)] ++ (List.range j).map (fun j => (xF j, 1)) ++ (List.range i2).map (fun j => (wrap64 (xG j + 1), 1)) ++ (List.range i3).map (fun j => (wd8 (F4 j), 8))) wq) ∧ Hid (fewP ([] ++ [(x0, 1)] ++ [(x1, 1)] ++ [(x2, 1)] ++ [(x3, 2)] ++ [(wrap64 (x4 + 1), 2)] ++ [(fl x5, 1)] ++ [(x6, 1)] ++ [(x7, 4)] ++ [((j : Int), 2)] ++ (List.range j).map (fun j => (xF j, 1)) ++ (List.range i2).map (fun j => (wrap64 (xG j + 1), 1)) ++ (List.range i3).map (fun j => (wd8 (F4 j), 8))))) (fun i _ => 4 - (intOf i).toNat)
          case atStart => exact ⟨0, _, by omega, rfl, Lib.hid (by simpa using hP2.out), Lib.hid (by simpa using hF.out)⟩
          case round =>
            clear hP2 hF
            obtain ⟨i3, v, hi3, rfl, hP, hF⟩ := hrel
            by_cases hlt3 : i3 < 4
            · have hlt3' : (i3 : Int) < 4 := by omega
              have cj := hS5.out hP.out i3 hlt3
              generalize hxj : F4 i3 = xj at *
              replace hxj := Lib.hid hxj
              go_wp2_with fail
              refine (i64_st hP.out.out xj hF.out).mono ?_
              rintro e w5 ⟨rfl, v5, q5, p5⟩
              replace hP := Lib.hid (hP.out.next q5 p5)
              replace hF := Lib.hid (hF.out.snoc (x := wd8 xj) (k := 8) (show 8 ≤ 8 by decide) (by simp; omega))
              have hE : [] ++ [(x0, 1)] ++ [(x1, 1)] ++ [(x2, 1)] ++ [(x3, 2)] ++ [(wrap64 (x4 + 1), 2)] ++ [(fl x5, 1)] ++ [(x6, 1)] ++ [(x7, 4)] ++ [((j : Int), 2)] ++ (List.range j).map (fun j => (xF j, 1)) ++ (List.range i2).map (fun j => (wrap64 (xG j + 1), 1)) ++ (List.range i3).map (fun j => (wd8 (F4 j), 8)) ++ [(wd8 xj, 8)] = [] ++ [(x0, 1)] ++ [(x1, 1)] ++ [(x2, 1)] ++ [(x3, 2)] ++ [(wrap64 (x4 + 1), 2)] ++ [(fl x5, 1)] ++ [(x6, 1)] ++ [(x7, 4)] ++ [((j : Int), 2)] ++ (List.range j).map (fun j => (xF j, 1)) ++ (List.range i2).map (fun j => (wrap64 (xG j + 1), 1)) ++ (List.range (i3 + 1)).map (fun j => (wd8 (F4 j), 8)) := by rw [← hxj.out, List.range_succ (n := i3)]; simp
              rw [hE] at hP hF
              clear hE q5 p5 cj
              go_wp2_with fail
              exact ⟨⟨i3 + 1, v5, by omega, by go_num, hP, hF⟩, by simp [intOf]; omega⟩
            · obtain rfl : i3 = 4 := by omega
              go_wp2_with fail
              go_end0
              refine ⟨rfl, v, ?_, hbz.out.trans hP.out.bel⟩
              rw [hE0.out]
              exact hP.out.out

end Go.Proofs.Ytnkgbigjpihfeaa.Kd
