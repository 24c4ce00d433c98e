/- Any command is formed, and has the bytes that the document says, or not: the walk of CommandWrites. -/
import Derived.Test.YtnkgbigjpihfeaaDg
import Derived.Test.YtnkgbigjpihfeaaJc
set_option linter.unusedVariables false
set_option linter.unusedSimpArgs false
namespace Go.Proofs.Ytnkgbigjpihfeaa.Kd
open Go.RowKit Go.Proofs.Ytnkgbigjpihfeaa.Lib
open Go.Proofs.Ytnkgbigjpihfeaa.Ma (alloc_keep alloc_at cbox_cells below_lee theirs15 theirsPost)

theorem wrP_few (xk xo xr xw xm xu xg xd xq : Int) (xb xy : Bool) (xa : Option Addr) (xn xc : Nat) (xF : Nat → Int) (hn : xn ≤ 1000) : fewP (wrP xk xo xr xw xm xu xg xd xq xb xy xn xF) := by
  unfold wrP
  split
  · refine ⟨fun p hp => ?_, by simp; omega⟩
    simp only [List.mem_append, List.mem_cons, List.not_mem_nil, or_false, List.mem_map] at hp
    rcases hp with ((rfl | rfl | rfl) | ⟨j, _, rfl⟩) | (rfl | rfl | rfl) <;> simp
  all_goals repeat' split
  all_goals refine ⟨fun p hp => ?_, by simp⟩
  all_goals
    simp only [List.mem_cons, List.not_mem_nil, or_false] at hp
    first
      | (rcases hp with rfl | rfl | rfl | rfl <;> simp)
      | (rcases hp with rfl | rfl | rfl <;> simp)
      | (rcases hp with rfl | rfl <;> simp)
      | (subst hp; simp)
def lenIf (F : Bool) (ps : List (Int × Nat)) : Prop := F = true → (catP ps).length ≤ 1000000
theorem catP_len {ps : List (Int × Nat)} (h : fewP ps) (hg : ps.all goodP = true) : (catP ps).length ≤ 1000000 := by
  have := h.len
  rw [st_good hg] at this
  exact this

set_option maxRecDepth 100000 in
theorem cWrites_many (xk xo xr xw xm xu xg xd xq : Int) (xb xy : Bool) (xa : Option Addr) (xn xc : Nat) (xF : Nat → Int) (w : World) (hf : 400 < xn) :
    Calls Try.prog 7 #[.agg #[.int .i64 xk, .int .i64 xo, .slice xa xn xc, .int .i64 xr, .int .i64 xw, .bool xb, .int .i64 xm, .int .i64 xu, .int .i64 xg, .int .i64 xd, .int .i64 xq, .bool xy]] w fun e w' => e = .returned (.bool true) ∧ Below w.heap.size w w' := by
  have hX0 : (w.alloc (.cells #[.int .i64 xk, .int .i64 xo, .slice xa xn xc, .int .i64 xr, .int .i64 xw, .bool xb, .int .i64 xm, .int .i64 xu, .int .i64 xg, .int .i64 xd, .int .i64 xq, .bool xy] 53)).heap[w.heap.size]? = some (.cells #[.int .i64 xk, .int .i64 xo, .slice xa xn xc, .int .i64 xr, .int .i64 xw, .bool xb, .int .i64 xm, .int .i64 xu, .int .i64 xg, .int .i64 xd, .int .i64 xq, .bool xy] 53 (0, 0)) := heap_alloc_new _ _
  have hb0 : Below w.heap.size w (w.alloc (.cells #[.int .i64 xk, .int .i64 xo, .slice xa xn xc, .int .i64 xr, .int .i64 xw, .bool xb, .int .i64 xm, .int .i64 xu, .int .i64 xg, .int .i64 xd, .int .i64 xq, .bool xy] 53)) := (Below.refl _ _).alloc (Nat.le_refl _) _
  have hs0 : (w.alloc (.cells #[.int .i64 xk, .int .i64 xo, .slice xa xn xc, .int .i64 xr, .int .i64 xw, .bool xb, .int .i64 xm, .int .i64 xu, .int .i64 xg, .int .i64 xd, .int .i64 xq, .bool xy] 53)).heap.size = w.heap.size + 1 := by simp
  have HN : Hid (∀ w', Calls Try.prog 36 #[] w' fun e w'' => e = .returned (.bool true) ∧ Below w'.heap.size w' w'') := Lib.hid awake15
  replace hX0 := Lib.hid hX0
  replace hb0 := Lib.hid hb0
  replace hs0 := Lib.hid hs0
  have hf' : (400 : Int) < xn := by omega
  clear hf
  go_enter Try.func7, Try.ntmps7
  go_wp2_with fail
  generalize w.alloc (.cells #[.int .i64 xk, .int .i64 xo, .slice xa xn xc, .int .i64 xr, .int .i64 xw, .bool xb, .int .i64 xm, .int .i64 xu, .int .i64 xg, .int .i64 xd, .int .i64 xq, .bool xy] 53) = w0 at *
  have hl0 : w.heap.size < w0.heap.size := by rw [hs0.out]; omega
  refine (HN.out _).mono ?_
  rintro e w1 ⟨rfl, b1⟩
  have hX1 := (b1.block w.heap.size (by have := hl0; omega)).trans hX0.out
  have hl1 : w.heap.size < w1.heap.size := Nat.lt_of_lt_of_le hl0 b1.size
  have hb1 := Lib.hid (hb0.out.trans (below_lee b1 (Nat.le_of_lt hl0)))
  obtain ⟨k0, k1, k2, k3, k4, k5, k6, k7, k8, k9, k10, k11⟩ := cbox_cells xk xo xr xw xm xu xg xd xq xb xy xa xn xc xF hX1
  replace hX1 := Lib.hid hX1
  clear b1
  go_wp2_with fail
  refine (HN.out _).mono ?_
  rintro e w2 ⟨rfl, b2⟩
  have hb2 := Lib.hid (hb1.out.trans (below_lee b2 (Nat.le_of_lt hl1)))
  clear b2
  go_wp2_with fail
  go_ret
  exact ⟨rfl, hb2.out⟩

set_option maxRecDepth 100000 in
set_option maxHeartbeats 3200000 in
theorem cWrites_few (xk xo xr xw xm xu xg xd xq : Int) (xb xy : Bool) (xa : Option Addr) (xn xc : Nat) (xF : Nat → Int) (w : World) (hf : xn ≤ 400) (hk : xk < 9223372036854775808) (hi : bnd xo xr xw xm xu xg xd xq) (hx : IntsAt w .i64 xa xn xF) (ha : xa = none → xn = 0 ∧ xc = 0) (hXF : ∀ j, j < xn → xF j < 9223372036854775808) :
    Calls Try.prog 7 #[.agg #[.int .i64 xk, .int .i64 xo, .slice xa xn xc, .int .i64 xr, .int .i64 xw, .bool xb, .int .i64 xm, .int .i64 xu, .int .i64 xg, .int .i64 xd, .int .i64 xq, .bool xy]] w fun e w' => e = .returned (.bool true) ∧ Below w.heap.size w w' := by
  obtain ⟨FB, hFB⟩ : ∃ FB, formB xk xo xr xw xm xu xg xd xq xb xy xn xF = FB := ⟨_, rfl⟩
  obtain ⟨ps, hps⟩ : ∃ ps, wrP xk xo xr xw xm xu xg xd xq xb xy xn xF = ps := ⟨_, rfl⟩
  have HL0 : FB = true → (catP ps).length ≤ 1000000 := fun h => by
    rw [← hps]
    exact catP_len (wrP_few xk xo xr xw xm xu xg xd xq xb xy xa xn xc xF (by omega)) (formB_good xk xo xr xw xm xu xg xd xq xb xy xa xn xc xF (hFB.trans h))
  have HT : Hid (∀ w', Below w.heap.size w w' → Calls Try.prog 38 #[.agg #[.int .i64 xk, .int .i64 xo, .slice xa xn xc, .int .i64 xr, .int .i64 xw, .bool xb, .int .i64 xm, .int .i64 xu, .int .i64 xg, .int .i64 xd, .int .i64 xq, .bool xy]] w' fun e w'' => theirsPost xk xo xr xw xm xu xg xd xq xb xy xn xF w' e w'') := Lib.hid (fun w' hb => theirs15 xk xo xr xw xm xu xg xd xq xb xy xa xn xc xF w' (hx.below hb) ha (by omega))
  have HE : Hid (∀ (a1 : Option Addr) (c1 : Nat) w', IntsAt w' .i64 a1 xn xF → Calls Try.prog 37 #[.agg #[.int .i64 xk, .int .i64 xo, .slice a1 xn c1, .int .i64 xr, .int .i64 xw, .bool xb, .int .i64 xm, .int .i64 xu, .int .i64 xg, .int .i64 xd, .int .i64 xq, .bool xy]] w' fun e w'' => encPost FB ps w' e w'') := Lib.hid (fun a1 c1 w' h => by
    rw [← hFB, ← hps]
    exact encode_any xk xo xr xw xm xu xg xd xq xb xy a1 xn c1 xF w' hk hi h (by omega) hXF)
  have HF : Hid (∀ (a1 : Option Addr) (c1 : Nat) w', IntsAt w' .i64 a1 xn xF → Calls Try.prog 40 #[.agg #[.int .i64 xk, .int .i64 xo, .slice a1 xn c1, .int .i64 xr, .int .i64 xw, .bool xb, .int .i64 xm, .int .i64 xu, .int .i64 xg, .int .i64 xd, .int .i64 xq, .bool xy]] w' fun e w'' => e = .returned (.bool FB) ∧ Below w'.heap.size w' w'') := Lib.hid (fun a1 c1 w' h => by
    rw [← hFB]
    exact formed_any xk xo xr xw xm xu xg xd xq xb xy a1 xn c1 xF w' hk hi h (by omega) hXF)
  have HR : Hid (∀ w', Below w.heap.size w w' → Calls Try.prog 39 #[.agg #[.int .i64 xk, .int .i64 xo, .slice xa xn xc, .int .i64 xr, .int .i64 xw, .bool xb, .int .i64 xm, .int .i64 xu, .int .i64 xg, .int .i64 xd, .int .i64 xq, .bool xy]] w' fun e w'' => e = .returned (.bool FB) ∧ Below w'.heap.size w' w'') := Lib.hid (fun w' hb => by
    rw [← hFB]
    exact refFormed xk xo xr xw xm xu xg xd xq xb xy xa xn xc xF w' (hx.below hb))
  have HY : Hid (∀ w', Below w.heap.size w w' → FB = true → Calls Try.prog 41 #[.agg #[.int .i64 xk, .int .i64 xo, .slice xa xn xc, .int .i64 xr, .int .i64 xw, .bool xb, .int .i64 xm, .int .i64 xu, .int .i64 xg, .int .i64 xd, .int .i64 xq, .bool xy]] w' fun e w'' => by41 (catP ps) w' e w'') := Lib.hid (fun w' hb hF => by
    rw [← hps]
    exact bytes41_any xk xo xr xw xm xu xg xd xq xb xy xa xn xc xF w' (hx.below hb) (hFB.trans hF))
  have hX0 : (w.alloc (.cells #[.int .i64 xk, .int .i64 xo, .slice xa xn xc, .int .i64 xr, .int .i64 xw, .bool xb, .int .i64 xm, .int .i64 xu, .int .i64 xg, .int .i64 xd, .int .i64 xq, .bool xy] 53)).heap[w.heap.size]? = some (.cells #[.int .i64 xk, .int .i64 xo, .slice xa xn xc, .int .i64 xr, .int .i64 xw, .bool xb, .int .i64 xm, .int .i64 xu, .int .i64 xg, .int .i64 xd, .int .i64 xq, .bool xy] 53 (0, 0)) := heap_alloc_new _ _
  have hb0 : Below w.heap.size w (w.alloc (.cells #[.int .i64 xk, .int .i64 xo, .slice xa xn xc, .int .i64 xr, .int .i64 xw, .bool xb, .int .i64 xm, .int .i64 xu, .int .i64 xg, .int .i64 xd, .int .i64 xq, .bool xy] 53)) := (Below.refl _ _).alloc (Nat.le_refl _) _
  have hs0 : (w.alloc (.cells #[.int .i64 xk, .int .i64 xo, .slice xa xn xc, .int .i64 xr, .int .i64 xw, .bool xb, .int .i64 xm, .int .i64 xu, .int .i64 xg, .int .i64 xd, .int .i64 xq, .bool xy] 53)).heap.size = w.heap.size + 1 := by simp
  have HN : Hid (∀ w', Calls Try.prog 36 #[] w' fun e w'' => e = .returned (.bool true) ∧ Below w'.heap.size w' w'') := Lib.hid awake15
  replace hX0 := Lib.hid hX0
  replace hb0 := Lib.hid hb0
  replace hs0 := Lib.hid hs0
  have hf' : ¬ (400 : Int) < xn := by omega
  clear hx hXF hi hk ha
  have HL1 : Hid (lenIf FB ps) := Lib.hid HL0
  clear HL0
  replace hFB := Lib.hid hFB
  replace hps := Lib.hid hps
  go_enter Try.func7, Try.ntmps7
  go_wp2_with fail
  generalize w.alloc (.cells #[.int .i64 xk, .int .i64 xo, .slice xa xn xc, .int .i64 xr, .int .i64 xw, .bool xb, .int .i64 xm, .int .i64 xu, .int .i64 xg, .int .i64 xd, .int .i64 xq, .bool xy] 53) = w0 at *
  have hl0 : w.heap.size < w0.heap.size := by rw [hs0.out]; omega
  refine (HN.out _).mono ?_
  rintro e w1 ⟨rfl, b1⟩
  have hX1 := (b1.block w.heap.size (by have := hl0; omega)).trans hX0.out
  have hl1 : w.heap.size < w1.heap.size := Nat.lt_of_lt_of_le hl0 b1.size
  have hb1 := Lib.hid (hb0.out.trans (below_lee b1 (Nat.le_of_lt hl0)))
  obtain ⟨k0, k1, k2, k3, k4, k5, k6, k7, k8, k9, k10, k11⟩ := cbox_cells xk xo xr xw xm xu xg xd xq xb xy xa xn xc xF hX1
  replace hX1 := Lib.hid hX1
  clear b1
  go_wp2_with fail
  refine (HT.out _ hb1.out).mono ?_
  rintro e w2 ⟨a2, c2, rfl, i2, _, _, b2⟩
  have hX2 := (b2.block w.heap.size (by have := hl1; omega)).trans hX1.out
  have hl2 : w.heap.size < w2.heap.size := Nat.lt_of_lt_of_le hl1 b2.size
  have hb2 := Lib.hid (hb1.out.trans (below_lee b2 (Nat.le_of_lt hl1)))
  clear k0 k1 k2 k3 k4 k5 k6 k7 k8 k9 k10 k11
  obtain ⟨k0, k1, k2, k3, k4, k5, k6, k7, k8, k9, k10, k11⟩ := cbox_cells xk xo xr xw xm xu xg xd xq xb xy xa xn xc xF hX2
  replace hX2 := Lib.hid hX2
  clear b2
  have HE2 := Lib.hid (HE.out a2 c2 w2 i2)
  clear i2
  go_wp2_with fail
  refine HE2.out.mono ?_
  rintro e w3 hE
  clear HE2
  cases FB with
  | false =>
    rcases hE with ⟨hg, _⟩ | ⟨_, rfl, b3⟩
    · cases hg
    have hX3 := (b3.block w.heap.size (by have := hl2; omega)).trans hX2.out
    have hl3 : w.heap.size < w3.heap.size := Nat.lt_of_lt_of_le hl2 b3.size
    have hb3 := Lib.hid (hb2.out.trans (below_lee b3 (Nat.le_of_lt hl2)))
    clear k0 k1 k2 k3 k4 k5 k6 k7 k8 k9 k10 k11
    obtain ⟨k0, k1, k2, k3, k4, k5, k6, k7, k8, k9, k10, k11⟩ := cbox_cells xk xo xr xw xm xu xg xd xq xb xy xa xn xc xF hX3
    replace hX3 := Lib.hid hX3
    clear b3
    go_wp2_with fail
    refine (HR.out _ hb3.out).mono ?_
    rintro e w4 ⟨rfl, b4⟩
    have hX4 := (b4.block w.heap.size (by have := hl3; omega)).trans hX3.out
    have hl4 : w.heap.size < w4.heap.size := Nat.lt_of_lt_of_le hl3 b4.size
    have hb4 := Lib.hid (hb3.out.trans (below_lee b4 (Nat.le_of_lt hl3)))
    clear k0 k1 k2 k3 k4 k5 k6 k7 k8 k9 k10 k11
    obtain ⟨k0, k1, k2, k3, k4, k5, k6, k7, k8, k9, k10, k11⟩ := cbox_cells xk xo xr xw xm xu xg xd xq xb xy xa xn xc xF hX4
    replace hX4 := Lib.hid hX4
    clear b4
    go_wp2_with fail
    refine (HT.out _ hb4.out).mono ?_
    rintro e w5 ⟨a5, c5, rfl, i5, _, _, b5⟩
    have hX5 := (b5.block w.heap.size (by have := hl4; omega)).trans hX4.out
    have hl5 : w.heap.size < w5.heap.size := Nat.lt_of_lt_of_le hl4 b5.size
    have hb5 := Lib.hid (hb4.out.trans (below_lee b5 (Nat.le_of_lt hl4)))
    clear k0 k1 k2 k3 k4 k5 k6 k7 k8 k9 k10 k11
    obtain ⟨k0, k1, k2, k3, k4, k5, k6, k7, k8, k9, k10, k11⟩ := cbox_cells xk xo xr xw xm xu xg xd xq xb xy xa xn xc xF hX5
    replace hX5 := Lib.hid hX5
    clear b5
    have HF5 := Lib.hid (HF.out a5 c5 w5 i5)
    clear i5
    go_wp2_with fail
    refine HF5.out.mono ?_
    rintro e w6 ⟨rfl, b6⟩
    have hb6 := Lib.hid (hb5.out.trans (below_lee b6 (Nat.le_of_lt hl5)))
    clear b6
    go_wp2_with fail
    go_ret
    exact ⟨rfl, hb6.out⟩
  | true =>
    rcases hE with ⟨_, a3, c3, rfl, g1, g2, g3, g4, g5, b3⟩ | ⟨hg, _⟩
    rotate_left
    · cases hg
    have hX3 := (b3.block w.heap.size (by have := hl2; omega)).trans hX2.out
    have hl3 : w.heap.size < w3.heap.size := Nat.lt_of_lt_of_le hl2 b3.size
    have hb3 := Lib.hid (hb2.out.trans (below_lee b3 (Nat.le_of_lt hl2)))
    clear k0 k1 k2 k3 k4 k5 k6 k7 k8 k9 k10 k11
    obtain ⟨k0, k1, k2, k3, k4, k5, k6, k7, k8, k9, k10, k11⟩ := cbox_cells xk xo xr xw xm xu xg xd xq xb xy xa xn xc xF hX3
    replace hX3 := Lib.hid hX3
    clear b3 g3 g4 g5
    have J3 : Hid (∀ w', Below w3.heap.size w3 w' → IntsAt w' .u8 a3 (catP ps).length (gtD (catP ps))) := Lib.hid (fun w' hb => IntsAt.below g1 hb)
    clear g1 g2
    have hcl : (catP ps).length ≤ 1000000 := HL1.out rfl
    generalize hC : catP ps = C at *
    replace hC := Lib.hid hC
    go_wp2_with fail
    refine (HR.out _ hb3.out).mono ?_
    rintro e w4 ⟨rfl, b4⟩
    have d4 : Below w3.heap.size w3 w4 := b4
    have hX4 := (b4.block w.heap.size (by have := hl3; omega)).trans hX3.out
    have hl4 : w.heap.size < w4.heap.size := Nat.lt_of_lt_of_le hl3 b4.size
    have hb4 := Lib.hid (hb3.out.trans (below_lee b4 (Nat.le_of_lt hl3)))
    clear k0 k1 k2 k3 k4 k5 k6 k7 k8 k9 k10 k11
    obtain ⟨k0, k1, k2, k3, k4, k5, k6, k7, k8, k9, k10, k11⟩ := cbox_cells xk xo xr xw xm xu xg xd xq xb xy xa xn xc xF hX4
    replace hX4 := Lib.hid hX4
    clear b4
    go_wp2_with fail
    refine (HT.out _ hb4.out).mono ?_
    rintro e w5 ⟨a5, c5, rfl, i5, _, _, b5⟩
    have d5 : Below w3.heap.size w3 w5 := d4.trans (below_lee b5 d4.size)
    have hX5 := (b5.block w.heap.size (by have := hl4; omega)).trans hX4.out
    have hl5 : w.heap.size < w5.heap.size := Nat.lt_of_lt_of_le hl4 b5.size
    have hb5 := Lib.hid (hb4.out.trans (below_lee b5 (Nat.le_of_lt hl4)))
    clear k0 k1 k2 k3 k4 k5 k6 k7 k8 k9 k10 k11
    obtain ⟨k0, k1, k2, k3, k4, k5, k6, k7, k8, k9, k10, k11⟩ := cbox_cells xk xo xr xw xm xu xg xd xq xb xy xa xn xc xF hX5
    replace hX5 := Lib.hid hX5
    clear b5
    have HF5 := Lib.hid (HF.out a5 c5 w5 i5)
    clear i5
    replace d5 := Lib.hid d5
    go_wp2_with fail
    refine HF5.out.mono ?_
    rintro e w6 ⟨rfl, b6⟩
    have d6 : Below w3.heap.size w3 w6 := d5.out.trans (below_lee b6 d5.out.size)
    have hX6 := (b6.block w.heap.size (by have := hl5; omega)).trans hX5.out
    have hl6 : w.heap.size < w6.heap.size := Nat.lt_of_lt_of_le hl5 b6.size
    have hb6 := Lib.hid (hb5.out.trans (below_lee b6 (Nat.le_of_lt hl5)))
    clear k0 k1 k2 k3 k4 k5 k6 k7 k8 k9 k10 k11
    obtain ⟨k0, k1, k2, k3, k4, k5, k6, k7, k8, k9, k10, k11⟩ := cbox_cells xk xo xr xw xm xu xg xd xq xb xy xa xn xc xF hX6
    replace hX6 := Lib.hid hX6
    clear b6
    replace d6 := Lib.hid d6
    have HY6 := Lib.hid (HY.out _ hb6.out (by simp))
    go_wp2_with fail
    refine HY6.out.mono ?_
    rintro e w7 ⟨v7, rfl, o7, b7⟩
    have d7 : Below w3.heap.size w3 w7 := d6.out.trans (below_lee b7 d6.out.size)
    have hX7 := (b7.block w.heap.size (by have := hl6; omega)).trans hX6.out
    have hl7 : w.heap.size < w7.heap.size := Nat.lt_of_lt_of_le hl6 b7.size
    have hb7 := Lib.hid (hb6.out.trans (below_lee b7 (Nat.le_of_lt hl6)))
    clear k0 k1 k2 k3 k4 k5 k6 k7 k8 k9 k10 k11
    obtain ⟨k0, k1, k2, k3, k4, k5, k6, k7, k8, k9, k10, k11⟩ := cbox_cells xk xo xr xw xm xu xg xd xq xb xy xa xn xc xF hX7
    replace hX7 := Lib.hid hX7
    clear b7
    obtain ⟨a7, c7, rfl, i7, _⟩ := own_at o7 (by omega)
    have HQ := bytes_same (c := c3) (d := c7) (J3.out _ d7) i7
    replace HQ := Lib.hid HQ
    clear o7 i7 d7
    generalize C.length = L at *
    go_wp2_with fail
    refine HQ.out.mono ?_
    rintro e w8 ⟨rfl, q8, rfl⟩
    go_wp2_with fail
    go_ret
    exact ⟨rfl, hb7.out.trans (below_dn _ _ _)⟩

theorem commandWrites_walk (xk xo xr xw xm xu xg xd xq : Int) (xb xy : Bool) (xa : Option Addr) (xn xc : Nat) (xF : Nat → Int) (w : World) (hk : xk < 9223372036854775808) (hi : bnd xo xr xw xm xu xg xd xq) (hx : IntsAt w .i64 xa xn xF) (ha : xa = none → xn = 0 ∧ xc = 0) (hXF : ∀ j, j < xn → xF j < 9223372036854775808) :
    Calls Try.prog 7 #[.agg #[.int .i64 xk, .int .i64 xo, .slice xa xn xc, .int .i64 xr, .int .i64 xw, .bool xb, .int .i64 xm, .int .i64 xu, .int .i64 xg, .int .i64 xd, .int .i64 xq, .bool xy]] w fun e w' => e = .returned (.bool true) ∧ Below w.heap.size w w' := by
  by_cases hf : 400 < xn
  · exact cWrites_many xk xo xr xw xm xu xg xd xq xb xy xa xn xc xF w hf
  · exact cWrites_few xk xo xr xw xm xu xg xd xq xb xy xa xn xc xF w (by omega) hk hi hx ha hXF

end Go.Proofs.Ytnkgbigjpihfeaa.Kd
