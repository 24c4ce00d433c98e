/- What is encoded is decoded as the same: the walk of CommandBack. -/
import Derived.Test.YtnkgbigjpihfeaaEf
import Derived.Test.YtnkgbigjpihfeaaDh
set_option linter.unusedVariables false
set_option linter.unusedSimpArgs false
namespace Go.Proofs.Ytnkgbigjpihfeaa.Kd
open Go.RowKit Go.Proofs.Ytnkgbigjpihfeaa.Lib
open Go.Proofs.Ytnkgbigjpihfeaa.Ma (alloc_keep alloc_at cbox_cells below_lee theirs15 theirsPost eqC eqC_self same15 equal15 sameB)

/-- Decoded as what was encoded. -/
def dcSame (xk xo xr xw xm xu xg xd xq : Int) (xb xy : Bool) (xn : Nat) (xF : Nat → Int) (w : World) (e : Ending) (w' : World) : Prop :=
  ∃ xa xc, e = .returned (.tuple #[.agg #[.int .i64 xk, .int .i64 xo, .slice xa xn xc, .int .i64 xr, .int .i64 xw, .bool xb, .int .i64 xm, .int .i64 xu, .int .i64 xg, .int .i64 xd, .int .i64 xq, .bool xy], .int .i64 0]) ∧ IntsAt w' .i64 xa xn xF ∧ Below w.heap.size w w'

theorem decode_same {w : World} {a : Option Addr} {n c : Nat} {F : Nat → Int} (h : IntsAt w .u8 a n F) (ha : a = none → n = 0) (hn : n ≤ 1000000) (hF : ∀ j, j < n → 0 ≤ F j ∧ F j < 256) {xk xo xr xw xm xu xg xd xq : Int} {xb xy : Bool} {xn : Nat} {xF : Nat → Int} (hf : formB xk xo xr xw xm xu xg xd xq xb xy xn xF = true) (hL : lof n F = catP (wrP xk xo xr xw xm xu xg xd xq xb xy xn xF)) :
    Calls Try.prog 46 #[.slice a n c] w fun e w' => dcSame xk xo xr xw xm xu xg xd xq xb xy xn xF w e w' := by
  refine (decode_any h ha hn hF).mono ?_
  rintro e w' ⟨hb, ⟨k1, o1, r1, w1, m1, u1, g1, d1, q1, b1, y1, a1, n1, c1, F1, rfl, hx, _, _, _, hs⟩ | ⟨_, hno⟩⟩
  · obtain ⟨rfl, rfl, rfl, rfl, rfl, rfl, rfl, rfl, rfl, rfl, rfl, rfl, hFF⟩ := hs xk xo xr xw xm xu xg xd xq xb xy xn xF hf hL
    exact ⟨a1, c1, rfl, ints_congr hx hFF, hb⟩
  · exact (hno xk xo xr xw xm xu xg xd xq xb xy xn xF hf hL).elim

set_option maxRecDepth 100000 in
theorem cBack_many (xk xo xr xw xm xu xg xd xq : Int) (xb xy : Bool) (xa : Option Addr) (xn xc : Nat) (xF : Nat → Int) (w : World) (hf : 400 < xn) :
    Calls Try.prog 10 #[.agg #[.int .i64 xk, .int .i64 xo, .slice xa xn xc, .int .i64 xr, .int .i64 xw, .bool xb, .int .i64 xm, .int .i64 xu, .int .i64 xg, .int .i64 xd, .int .i64 xq, .bool xy]] w fun e w' => e = .returned (.bool true) ∧ Below w.heap.size w w' := by
  have hX0 : (w.alloc (.cells #[.int .i64 xk, .int .i64 xo, .slice xa xn xc, .int .i64 xr, .int .i64 xw, .bool xb, .int .i64 xm, .int .i64 xu, .int .i64 xg, .int .i64 xd, .int .i64 xq, .bool xy] 53)).heap[w.heap.size]? = some (.cells #[.int .i64 xk, .int .i64 xo, .slice xa xn xc, .int .i64 xr, .int .i64 xw, .bool xb, .int .i64 xm, .int .i64 xu, .int .i64 xg, .int .i64 xd, .int .i64 xq, .bool xy] 53 (0, 0)) := heap_alloc_new _ _
  have hb0 : Below w.heap.size w (w.alloc (.cells #[.int .i64 xk, .int .i64 xo, .slice xa xn xc, .int .i64 xr, .int .i64 xw, .bool xb, .int .i64 xm, .int .i64 xu, .int .i64 xg, .int .i64 xd, .int .i64 xq, .bool xy] 53)) := (Below.refl _ _).alloc (Nat.le_refl _) _
  have hs0 : (w.alloc (.cells #[.int .i64 xk, .int .i64 xo, .slice xa xn xc, .int .i64 xr, .int .i64 xw, .bool xb, .int .i64 xm, .int .i64 xu, .int .i64 xg, .int .i64 xd, .int .i64 xq, .bool xy] 53)).heap.size = w.heap.size + 1 := by simp
  have HN : Hid (∀ w', Calls Try.prog 36 #[] w' fun e w'' => e = .returned (.bool true) ∧ Below w'.heap.size w' w'') := Lib.hid awake15
  replace hX0 := Lib.hid hX0
  replace hb0 := Lib.hid hb0
  replace hs0 := Lib.hid hs0
  have hf' : (400 : Int) < xn := by omega
  clear hf
  go_enter Try.func10, Try.ntmps10
  go_wp2_with fail
  generalize w.alloc (.cells #[.int .i64 xk, .int .i64 xo, .slice xa xn xc, .int .i64 xr, .int .i64 xw, .bool xb, .int .i64 xm, .int .i64 xu, .int .i64 xg, .int .i64 xd, .int .i64 xq, .bool xy] 53) = w0 at *
  have hl0 : w.heap.size < w0.heap.size := by rw [hs0.out]; omega
  refine (HN.out _).mono ?_
  rintro e w1 ⟨rfl, b1⟩
  have hX1 := (b1.block w.heap.size (by have := hl0; omega)).trans hX0.out
  have hl1 : w.heap.size < w1.heap.size := Nat.lt_of_lt_of_le hl0 b1.size
  have hb1 := Lib.hid (hb0.out.trans (below_lee b1 (Nat.le_of_lt hl0)))
  obtain ⟨k0, k1, k2, k3, k4, k5, k6, k7, k8, k9, k10, k11⟩ := cbox_cells xk xo xr xw xm xu xg xd xq xb xy xa xn xc xF hX1
  replace hX1 := Lib.hid hX1
  clear b1
  go_wp2_with fail
  refine (HN.out _).mono ?_
  rintro e w2 ⟨rfl, b2⟩
  have hb2 := Lib.hid (hb1.out.trans (below_lee b2 (Nat.le_of_lt hl1)))
  clear b2
  go_wp2_with fail
  go_ret
  exact ⟨rfl, hb2.out⟩

set_option maxRecDepth 100000 in
set_option maxHeartbeats 6400000 in
theorem cBack_few (xk xo xr xw xm xu xg xd xq : Int) (xb xy : Bool) (xa : Option Addr) (xn xc : Nat) (xF : Nat → Int) (w : World) (hf : xn ≤ 400) (hk : xk < 9223372036854775808) (hi : bnd xo xr xw xm xu xg xd xq) (hx : IntsAt w .i64 xa xn xF) (ha : xa = none → xn = 0 ∧ xc = 0) (hXF : ∀ j, j < xn → xF j < 9223372036854775808) :
    Calls Try.prog 10 #[.agg #[.int .i64 xk, .int .i64 xo, .slice xa xn xc, .int .i64 xr, .int .i64 xw, .bool xb, .int .i64 xm, .int .i64 xu, .int .i64 xg, .int .i64 xd, .int .i64 xq, .bool xy]] w fun e w' => e = .returned (.bool true) ∧ Below w.heap.size w w' := by
  obtain ⟨FB, hFB⟩ : ∃ FB, formB xk xo xr xw xm xu xg xd xq xb xy xn xF = FB := ⟨_, rfl⟩
  obtain ⟨ps, hps⟩ : ∃ ps, wrP xk xo xr xw xm xu xg xd xq xb xy xn xF = ps := ⟨_, rfl⟩
  have HL0 : FB = true → (catP ps).length ≤ 1000000 := fun h => by
    rw [← hps]
    exact catP_len (wrP_few xk xo xr xw xm xu xg xd xq xb xy xa xn xc xF (by omega)) (formB_good xk xo xr xw xm xu xg xd xq xb xy xa xn xc xF (hFB.trans h))
  have HT : Hid (∀ w', Below w.heap.size w w' → Calls Try.prog 38 #[.agg #[.int .i64 xk, .int .i64 xo, .slice xa xn xc, .int .i64 xr, .int .i64 xw, .bool xb, .int .i64 xm, .int .i64 xu, .int .i64 xg, .int .i64 xd, .int .i64 xq, .bool xy]] w' fun e w'' => theirsPost xk xo xr xw xm xu xg xd xq xb xy xn xF w' e w'') := Lib.hid (fun w' hb => theirs15 xk xo xr xw xm xu xg xd xq xb xy xa xn xc xF w' (hx.below hb) ha (by omega))
  have HE : Hid (∀ (a1 : Option Addr) (c1 : Nat) w', IntsAt w' .i64 a1 xn xF → Calls Try.prog 37 #[.agg #[.int .i64 xk, .int .i64 xo, .slice a1 xn c1, .int .i64 xr, .int .i64 xw, .bool xb, .int .i64 xm, .int .i64 xu, .int .i64 xg, .int .i64 xd, .int .i64 xq, .bool xy]] w' fun e w'' => encPost FB ps w' e w'') := Lib.hid (fun a1 c1 w' h => by
    rw [← hFB, ← hps]
    exact encode_any xk xo xr xw xm xu xg xd xq xb xy a1 xn c1 xF w' hk hi h (by omega) hXF)
  have HD : Hid (∀ (a1 : Option Addr) (c1 : Nat) w', FB = true → IntsAt w' .u8 a1 (catP ps).length (gtD (catP ps)) → (a1 = none → (catP ps).length = 0) → Calls Try.prog 46 #[.slice a1 (catP ps).length c1] w' fun e w'' => dcSame xk xo xr xw xm xu xg xd xq xb xy xn xF w' e w'') := Lib.hid (fun a1 c1 w' hF h hn => by
    have hok : okB (catP ps) := fun x hx => by
      simp only [catP, List.mem_flatMap] at hx
      obtain ⟨p, _, hx⟩ := hx
      exact okB_leB p.2 p.1 x hx
    exact decode_same h hn (HL0 hF) (fun j _ => ok_gtD hok j) (hFB.trans hF) (by rw [lof_gtD, hps]))
  have HO : Hid (∀ (a1 : Option Addr) (c1 : Nat) w', Calls Try.prog 47 #[.agg #[.int .i64 xk, .int .i64 xo, .slice a1 xn c1, .int .i64 xr, .int .i64 xw, .bool xb, .int .i64 xm, .int .i64 xu, .int .i64 xg, .int .i64 xd, .int .i64 xq, .bool xy]] w' fun e w'' => e = .returned (.agg #[.int .i64 xk, .int .i64 xo, .slice a1 xn c1, .int .i64 xr, .int .i64 xw, .bool xb, .int .i64 xm, .int .i64 xu, .int .i64 xg, .int .i64 xd, .int .i64 xq, .bool xy]) ∧ Below w'.heap.size w' w'') := Lib.hid (fun a1 c1 w' => ours15 xk xo xr xw xm xu xg xd xq xb xy a1 xn c1 w')
  have HS : Hid (∀ (a1 : Option Addr) (c1 : Nat) w', Below w.heap.size w w' → IntsAt w' .i64 a1 xn xF → Calls Try.prog 43 #[.agg #[.int .i64 xk, .int .i64 xo, .slice a1 xn c1, .int .i64 xr, .int .i64 xw, .bool xb, .int .i64 xm, .int .i64 xu, .int .i64 xg, .int .i64 xd, .int .i64 xq, .bool xy], .agg #[.int .i64 xk, .int .i64 xo, .slice xa xn xc, .int .i64 xr, .int .i64 xw, .bool xb, .int .i64 xm, .int .i64 xu, .int .i64 xg, .int .i64 xd, .int .i64 xq, .bool xy]] w' fun e w'' => e = .returned (.bool true) ∧ Below w'.heap.size w' w'') := Lib.hid (fun a1 c1 w' hb h => by
    have := same15 xk xo xr xw xm xu xg xd xq xb xy a1 xn c1 xF xk xo xr xw xm xu xg xd xq xb xy xa xn xc xF w' h (hx.below hb)
    rw [eqC_self xk xo xr xw xm xu xg xd xq xb xy xa xn xc xF] at this
    exact this)
  have HQ : Hid (∀ (a1 a2 : Option Addr) (c1 c2 : Nat) w', IntsAt w' .i64 a1 xn xF → IntsAt w' .i64 a2 xn xF → Calls Try.prog 42 #[.agg #[.int .i64 xk, .int .i64 xo, .slice a1 xn c1, .int .i64 xr, .int .i64 xw, .bool xb, .int .i64 xm, .int .i64 xu, .int .i64 xg, .int .i64 xd, .int .i64 xq, .bool xy], .agg #[.int .i64 xk, .int .i64 xo, .slice a2 xn c2, .int .i64 xr, .int .i64 xw, .bool xb, .int .i64 xm, .int .i64 xu, .int .i64 xg, .int .i64 xd, .int .i64 xq, .bool xy]] w' fun e w'' => e = .returned (.bool true) ∧ Below w'.heap.size w' w'') := Lib.hid (fun a1 a2 c1 c2 w' h h' => by
    have := equal15 xk xo xr xw xm xu xg xd xq xb xy a1 xn c1 xF xk xo xr xw xm xu xg xd xq xb xy a2 xn c2 xF w' h h'
    rw [eqC_self xk xo xr xw xm xu xg xd xq xb xy xa xn xc xF] at this
    exact this)
  have hX0 : (w.alloc (.cells #[.int .i64 xk, .int .i64 xo, .slice xa xn xc, .int .i64 xr, .int .i64 xw, .bool xb, .int .i64 xm, .int .i64 xu, .int .i64 xg, .int .i64 xd, .int .i64 xq, .bool xy] 53)).heap[w.heap.size]? = some (.cells #[.int .i64 xk, .int .i64 xo, .slice xa xn xc, .int .i64 xr, .int .i64 xw, .bool xb, .int .i64 xm, .int .i64 xu, .int .i64 xg, .int .i64 xd, .int .i64 xq, .bool xy] 53 (0, 0)) := heap_alloc_new _ _
  have hb0 : Below w.heap.size w (w.alloc (.cells #[.int .i64 xk, .int .i64 xo, .slice xa xn xc, .int .i64 xr, .int .i64 xw, .bool xb, .int .i64 xm, .int .i64 xu, .int .i64 xg, .int .i64 xd, .int .i64 xq, .bool xy] 53)) := (Below.refl _ _).alloc (Nat.le_refl _) _
  have hs0 : (w.alloc (.cells #[.int .i64 xk, .int .i64 xo, .slice xa xn xc, .int .i64 xr, .int .i64 xw, .bool xb, .int .i64 xm, .int .i64 xu, .int .i64 xg, .int .i64 xd, .int .i64 xq, .bool xy] 53)).heap.size = w.heap.size + 1 := by simp
  have HN : Hid (∀ w', Calls Try.prog 36 #[] w' fun e w'' => e = .returned (.bool true) ∧ Below w'.heap.size w' w'') := Lib.hid awake15
  replace hX0 := Lib.hid hX0
  replace hb0 := Lib.hid hb0
  replace hs0 := Lib.hid hs0
  have hf' : ¬ (400 : Int) < xn := by omega
  have HL1 : Hid (lenIf FB ps) := Lib.hid HL0
  clear hx hXF hi hk ha HL0
  replace hFB := Lib.hid hFB
  replace hps := Lib.hid hps
  go_enter Try.func10, Try.ntmps10
  go_wp2_with fail
  generalize w.alloc (.cells #[.int .i64 xk, .int .i64 xo, .slice xa xn xc, .int .i64 xr, .int .i64 xw, .bool xb, .int .i64 xm, .int .i64 xu, .int .i64 xg, .int .i64 xd, .int .i64 xq, .bool xy] 53) = w0 at *
  have hl0 : w.heap.size < w0.heap.size := by rw [hs0.out]; omega
  refine (HN.out _).mono ?_
  rintro e w1 ⟨rfl, b1⟩
  have hX1 := (b1.block w.heap.size (by have := hl0; omega)).trans hX0.out
  have hl1 : w.heap.size < w1.heap.size := Nat.lt_of_lt_of_le hl0 b1.size
  have hb1 := Lib.hid (hb0.out.trans (below_lee b1 (Nat.le_of_lt hl0)))
  obtain ⟨k0, k1, k2, k3, k4, k5, k6, k7, k8, k9, k10, k11⟩ := cbox_cells xk xo xr xw xm xu xg xd xq xb xy xa xn xc xF hX1
  replace hX1 := Lib.hid hX1
  clear b1
  go_wp2_with fail
  refine (HT.out _ hb1.out).mono ?_
  rintro e w2 ⟨a2, c2, rfl, i2, _, _, b2⟩
  have hX2 := (b2.block w.heap.size (by have := hl1; omega)).trans hX1.out
  have hl2 : w.heap.size < w2.heap.size := Nat.lt_of_lt_of_le hl1 b2.size
  have hb2 := Lib.hid (hb1.out.trans (below_lee b2 (Nat.le_of_lt hl1)))
  clear k0 k1 k2 k3 k4 k5 k6 k7 k8 k9 k10 k11
  obtain ⟨k0, k1, k2, k3, k4, k5, k6, k7, k8, k9, k10, k11⟩ := cbox_cells xk xo xr xw xm xu xg xd xq xb xy xa xn xc xF hX2
  replace hX2 := Lib.hid hX2
  clear b2
  have HE2 := Lib.hid (HE.out a2 c2 w2 i2)
  clear i2
  go_wp2_with fail
  refine HE2.out.mono ?_
  rintro e w3 hE
  clear HE2
  cases FB with
  | false =>
    rcases hE with ⟨hg, _⟩ | ⟨_, rfl, b3⟩
    · cases hg
    have hb3 := Lib.hid (hb2.out.trans (below_lee b3 (Nat.le_of_lt hl2)))
    clear b3 k0 k1 k2 k3 k4 k5 k6 k7 k8 k9 k10 k11
    go_wp2_with fail
    go_ret
    exact ⟨rfl, hb3.out⟩
  | true =>
    rcases hE with ⟨_, a3, c3, rfl, g1, g2, g3, g4, g5, b3⟩ | ⟨hg, _⟩
    rotate_left
    · cases hg
    have hX3 := (b3.block w.heap.size (by have := hl2; omega)).trans hX2.out
    have hl3 : w.heap.size < w3.heap.size := Nat.lt_of_lt_of_le hl2 b3.size
    have hb3 := Lib.hid (hb2.out.trans (below_lee b3 (Nat.le_of_lt hl2)))
    clear k0 k1 k2 k3 k4 k5 k6 k7 k8 k9 k10 k11
    obtain ⟨k0, k1, k2, k3, k4, k5, k6, k7, k8, k9, k10, k11⟩ := cbox_cells xk xo xr xw xm xu xg xd xq xb xy xa xn xc xF hX3
    replace hX3 := Lib.hid hX3
    clear b3 g3 g4 g5
    have HD3 := Lib.hid (HD.out a3 c3 w3 (by simp) g1 (fun e => (g2 e).1))
    clear g1 g2 HD
    generalize (catP ps).length = CL at *
    go_wp2_with fail
    refine HD3.out.mono ?_
    rintro e w4 ⟨da, dc, rfl, hd4, b4⟩
    have hX4 := (b4.block w.heap.size (by have := hl3; omega)).trans hX3.out
    have hl4 : w.heap.size < w4.heap.size := Nat.lt_of_lt_of_le hl3 b4.size
    have hb4 := Lib.hid (hb3.out.trans (below_lee b4 (Nat.le_of_lt hl3)))
    have hD5 : (w4.alloc (.cells #[.int .i64 xk, .int .i64 xo, .slice da xn dc, .int .i64 xr, .int .i64 xw, .bool xb, .int .i64 xm, .int .i64 xu, .int .i64 xg, .int .i64 xd, .int .i64 xq, .bool xy] 55)).heap[w4.heap.size]? = some (.cells #[.int .i64 xk, .int .i64 xo, .slice da xn dc, .int .i64 xr, .int .i64 xw, .bool xb, .int .i64 xm, .int .i64 xu, .int .i64 xg, .int .i64 xd, .int .i64 xq, .bool xy] 55 (0, 0)) := heap_alloc_new _ _
    have hX5 : (w4.alloc (.cells #[.int .i64 xk, .int .i64 xo, .slice da xn dc, .int .i64 xr, .int .i64 xw, .bool xb, .int .i64 xm, .int .i64 xu, .int .i64 xg, .int .i64 xd, .int .i64 xq, .bool xy] 55)).heap[w.heap.size]? = some (.cells #[.int .i64 xk, .int .i64 xo, .slice xa xn xc, .int .i64 xr, .int .i64 xw, .bool xb, .int .i64 xm, .int .i64 xu, .int .i64 xg, .int .i64 xd, .int .i64 xq, .bool xy] 53 (0, 0)) := alloc_keep hX4
    have hb5 := Lib.hid (hb4.out.alloc (Nat.le_of_lt hl4) (.cells #[.int .i64 xk, .int .i64 xo, .slice da xn dc, .int .i64 xr, .int .i64 xw, .bool xb, .int .i64 xm, .int .i64 xu, .int .i64 xg, .int .i64 xd, .int .i64 xq, .bool xy] 55))
    have hd5 := Lib.hid (Ma.ints_alloc hd4 (.cells #[.int .i64 xk, .int .i64 xo, .slice da xn dc, .int .i64 xr, .int .i64 xw, .bool xb, .int .i64 xm, .int .i64 xu, .int .i64 xg, .int .i64 xd, .int .i64 xq, .bool xy] 55))
    have hl5 : (w4.alloc (.cells #[.int .i64 xk, .int .i64 xo, .slice da xn dc, .int .i64 xr, .int .i64 xw, .bool xb, .int .i64 xm, .int .i64 xu, .int .i64 xg, .int .i64 xd, .int .i64 xq, .bool xy] 55)).heap.size = w4.heap.size + 1 := by simp
    clear k0 k1 k2 k3 k4 k5 k6 k7 k8 k9 k10 k11 b4 hX4 hd4
    replace hD5 := Lib.hid hD5
    replace hX5 := Lib.hid hX5
    replace hl5 := Lib.hid hl5
    go_upto_region 7 with fail
    generalize w4.alloc (.cells #[.int .i64 xk, .int .i64 xo, .slice da xn dc, .int .i64 xr, .int .i64 xw, .bool xb, .int .i64 xm, .int .i64 xu, .int .i64 xg, .int .i64 xd, .int .i64 xq, .bool xy] 55) = w5 at *
    have hPw : w4.heap.size < w5.heap.size := by rw [hl5.out]; omega
    generalize w4.heap.size = P at *
    clear hl5
    have KS : Hid (∀ w', Below w5.heap.size w5 w' → (w'.cell? ⟨w.heap.size, 0, none⟩ = some (.int .i64 xk) ∧ w'.cell? ⟨w.heap.size, 1, none⟩ = some (.int .i64 xo) ∧ w'.cell? ⟨w.heap.size, 2, none⟩ = some (.slice xa xn xc) ∧ w'.cell? ⟨w.heap.size, 3, none⟩ = some (.int .i64 xr) ∧ w'.cell? ⟨w.heap.size, 4, none⟩ = some (.int .i64 xw) ∧ w'.cell? ⟨w.heap.size, 5, none⟩ = some (.bool xb) ∧ w'.cell? ⟨w.heap.size, 6, none⟩ = some (.int .i64 xm) ∧ w'.cell? ⟨w.heap.size, 7, none⟩ = some (.int .i64 xu) ∧ w'.cell? ⟨w.heap.size, 8, none⟩ = some (.int .i64 xg) ∧ w'.cell? ⟨w.heap.size, 9, none⟩ = some (.int .i64 xd) ∧ w'.cell? ⟨w.heap.size, 10, none⟩ = some (.int .i64 xq) ∧ w'.cell? ⟨w.heap.size, 11, none⟩ = some (.bool xy)) ∧ (w'.cell? ⟨P, 0, none⟩ = some (.int .i64 xk) ∧ w'.cell? ⟨P, 1, none⟩ = some (.int .i64 xo) ∧ w'.cell? ⟨P, 2, none⟩ = some (.slice da xn dc) ∧ w'.cell? ⟨P, 3, none⟩ = some (.int .i64 xr) ∧ w'.cell? ⟨P, 4, none⟩ = some (.int .i64 xw) ∧ w'.cell? ⟨P, 5, none⟩ = some (.bool xb) ∧ w'.cell? ⟨P, 6, none⟩ = some (.int .i64 xm) ∧ w'.cell? ⟨P, 7, none⟩ = some (.int .i64 xu) ∧ w'.cell? ⟨P, 8, none⟩ = some (.int .i64 xg) ∧ w'.cell? ⟨P, 9, none⟩ = some (.int .i64 xd) ∧ w'.cell? ⟨P, 10, none⟩ = some (.int .i64 xq) ∧ w'.cell? ⟨P, 11, none⟩ = some (.bool xy))) := Lib.hid (fun w' hq => ⟨cbox_cells xk xo xr xw xm xu xg xd xq xb xy xa xn xc xF ((hq.block w.heap.size (by omega)).trans hX5.out), cbox_cells xk xo xr xw xm xu xg xd xq xb xy da xn dc xF ((hq.block P hPw).trans hD5.out)⟩)
    have hb := Lib.hid (Below.drew (Below.refl w5.heap.size w5))
    have hdd := Lib.hid (hd5.out.below hb.out)
    clear hX5 hD5 hX1 hX2 hX3 hX0 HN HE HD3
    go_region_held3 (fun w' => (w'.cell? ⟨w.heap.size, 0, none⟩ = some (.int .i64 xk) ∧ w'.cell? ⟨w.heap.size, 1, none⟩ = some (.int .i64 xo) ∧ w'.cell? ⟨w.heap.size, 2, none⟩ = some (.slice xa xn xc) ∧ w'.cell? ⟨w.heap.size, 3, none⟩ = some (.int .i64 xr) ∧ w'.cell? ⟨w.heap.size, 4, none⟩ = some (.int .i64 xw) ∧ w'.cell? ⟨w.heap.size, 5, none⟩ = some (.bool xb) ∧ w'.cell? ⟨w.heap.size, 6, none⟩ = some (.int .i64 xm) ∧ w'.cell? ⟨w.heap.size, 7, none⟩ = some (.int .i64 xu) ∧ w'.cell? ⟨w.heap.size, 8, none⟩ = some (.int .i64 xg) ∧ w'.cell? ⟨w.heap.size, 9, none⟩ = some (.int .i64 xd) ∧ w'.cell? ⟨w.heap.size, 10, none⟩ = some (.int .i64 xq) ∧ w'.cell? ⟨w.heap.size, 11, none⟩ = some (.bool xy)) ∧ (w'.cell? ⟨P, 0, none⟩ = some (.int .i64 xk) ∧ w'.cell? ⟨P, 1, none⟩ = some (.int .i64 xo) ∧ w'.cell? ⟨P, 2, none⟩ = some (.slice da xn dc) ∧ w'.cell? ⟨P, 3, none⟩ = some (.int .i64 xr) ∧ w'.cell? ⟨P, 4, none⟩ = some (.int .i64 xw) ∧ w'.cell? ⟨P, 5, none⟩ = some (.bool xb) ∧ w'.cell? ⟨P, 6, none⟩ = some (.int .i64 xm) ∧ w'.cell? ⟨P, 7, none⟩ = some (.int .i64 xu) ∧ w'.cell? ⟨P, 8, none⟩ = some (.int .i64 xg) ∧ w'.cell? ⟨P, 9, none⟩ = some (.int .i64 xd) ∧ w'.cell? ⟨P, 10, none⟩ = some (.int .i64 xq) ∧ w'.cell? ⟨P, 11, none⟩ = some (.bool xy))) (first | exact KS.out _ hb.out)
      (first
        | (go_at_call 47; (with_reducible refine (HO.out da dc _).mono ?_); rintro e w6 ⟨rfl, hk6⟩; replace hdd := Lib.hid (hdd.out.below hk6); replace hb := Lib.hid (hb.out.trans (below_lee hk6 hb.out.size)); clear hk6)
        | (go_at_call 43; (with_reducible refine (HS.out da dc _ (hb5.out.trans (below_lee hb.out hb5.out.size)) hdd.out).mono ?_); rintro e w6 ⟨rfl, hk6⟩; replace hdd := Lib.hid (hdd.out.below hk6); replace hb := Lib.hid (hb.out.trans (below_lee hk6 hb.out.size)); clear hk6)
        | (go_at_call 38; (with_reducible refine (HT.out _ (hb5.out.trans (below_lee hb.out hb5.out.size))).mono ?_); rintro e w6 ⟨ta, tc, rfl, ti, _, _, hk6⟩; replace hdd := Lib.hid (hdd.out.below hk6); replace ti := Lib.hid ti; replace hb := Lib.hid (hb.out.trans (below_lee hk6 hb.out.size)); clear hk6)
        | (go_at_call 42; (with_reducible refine (HQ.out da ta dc tc _ hdd.out ti.out).mono ?_); rintro e w6 ⟨rfl, hk6⟩; replace hb := Lib.hid (hb.out.trans (below_lee hk6 hb.out.size)); clear hk6))
    all_goals
      go_wp2_with fail
      go_ret
      exact ⟨rfl, hb5.out.trans (below_lee hb.out hb5.out.size)⟩

theorem commandBack_walk (xk xo xr xw xm xu xg xd xq : Int) (xb xy : Bool) (xa : Option Addr) (xn xc : Nat) (xF : Nat → Int) (w : World) (hk : xk < 9223372036854775808) (hi : bnd xo xr xw xm xu xg xd xq) (hx : IntsAt w .i64 xa xn xF) (ha : xa = none → xn = 0 ∧ xc = 0) (hXF : ∀ j, j < xn → xF j < 9223372036854775808) :
    Calls Try.prog 10 #[.agg #[.int .i64 xk, .int .i64 xo, .slice xa xn xc, .int .i64 xr, .int .i64 xw, .bool xb, .int .i64 xm, .int .i64 xu, .int .i64 xg, .int .i64 xd, .int .i64 xq, .bool xy]] w fun e w' => e = .returned (.bool true) ∧ Below w.heap.size w w' := by
  by_cases hf : 400 < xn
  · exact cBack_many xk xo xr xw xm xu xg xd xq xb xy xa xn xc xF w hf
  · exact cBack_few xk xo xr xw xm xu xg xd xq xb xy xa xn xc xF w (by omega) hk hi hx ha hXF

end Go.Proofs.Ytnkgbigjpihfeaa.Kd
