/- What is put of a right return is taken as it was, and nothing is left: the walk of RmaBack. -/
import Derived.Test.YtnkgbigjpihfeaaFf
import Derived.Test.YtnkgbigjpihfeaaIc
import Derived.Deep.RegionHeld3
set_option linter.unusedVariables false
set_option linter.unusedSimpArgs false
namespace Go.Proofs.Ytnkgbigjpihfeaa.Kd
open Go.RowKit Go.Proofs.Ytnkgbigjpihfeaa.Lib
open Go.Proofs.Ytnkgbigjpihfeaa.Ma (alloc_keep alloc_at setRow_h info76 awake14 below_lee fewB theirs14 clonePost eqR eqR_self same_any)

theorem info73 : (Try.prog.info? 73).map (·.size) = some 14 := by kernel_rfl
set_option maxRecDepth 100000 in
theorem ours14 (x0 x1 x2 x3 x4 x6 x7 x10 x11 x12 x13 : Int) (x5 : Bool) (xa xd : Option Addr) (xn xc xm xe : Nat) (xF xG : Nat → Int) (w : World) : Calls Try.prog 57 #[.agg #[.int .i64 x0, .int .i64 x1, .int .i64 x2, .int .i64 x3, .int .i64 x4, .bool x5, .int .i64 x6, .int .i64 x7, .slice xa xn xc, .slice xd xm xe, .int .i64 x10, .int .i64 x11, .int .i64 x12, .int .i64 x13]] w fun e w' => e = .returned (.agg #[.int .i64 x0, .int .i64 x1, .int .i64 x2, .int .i64 x3, .int .i64 x4, .bool x5, .int .i64 x6, .int .i64 x7, .slice xa xn xc, .slice xd xm xe, .int .i64 x10, .int .i64 x11, .int .i64 x12, .int .i64 x13]) ∧ Below w.heap.size w w' := by
  go_enter Try.func57, Try.ntmps57
  go_wp2_with fail
  refine bodyPost_ret (results_cell_row (p := 2) (ty := 73) rfl _ _ (w.heap.size + 1) 73 #[.int .i64 x0, .int .i64 x1, .int .i64 x2, .int .i64 x3, .int .i64 x4, .bool x5, .int .i64 x6, .int .i64 x7, .slice xa xn xc, .slice xd xm xe, .int .i64 x10, .int .i64 x11, .int .i64 x12, .int .i64 x13] (0, 0) _ (by rfl) ?_ Try.underlying73 rfl info73) rfl ⟨rfl, ?_⟩
  · exact alloc_at (by simp)
  · exact ((Below.refl _ _).alloc (Nat.le_refl _) _).alloc (by simp) _

/-- Numbers don't lie in a writer's box. -/
theorem OutAt.keepB {w w' : World} {O : Nat} {l : List Int} {bad : Bool} (h : OutAt w O (.slice none 0 0) l bad) (hb : Below w.heap.size w w') : OutAt w' O (.slice none 0 0) l bad := by
  refine ⟨(hb.block O h.lt).trans h.box, ?_⟩
  obtain ⟨h1, h2 | ⟨g, _, _, e, _⟩⟩ := h.row
  · exact ⟨h1, Or.inl h2⟩
  · cases e

theorem ints_not_out {w : World} {O n : Nat} {a : Option Addr} {F : Nat → Int} {l : List Int} {bad : Bool} (h : IntsAt w .i64 a n F) (ho : OutAt w O (.slice none 0 0) l bad) : 0 < n → ∀ p, a = some p → p.block ≠ O := fun hn p e hb => by
  obtain ⟨b, off, e2, _, hc⟩ := h.2 hn
  rw [e] at e2
  cases e2
  have h0 := hc 0 hn
  simp only [World.cell?] at h0
  rw [show w.heap[b]? = some (.cells #[.slice none 0 0, .bool bad] 39 (0, 0)) from by rw [show b = O from hb]; exact ho.box] at h0
  have : off + 0 = 0 ∨ off + 0 = 1 ∨ 2 ≤ off + 0 := by omega
  rcases this with e1 | e1 | e1
  · rw [e1] at h0
    simp at h0
  · rw [e1] at h0
    simp at h0
  · simp at h0
    rw [List.getElem?_eq_none (by simpa using e1)] at h0
    cases h0

/-- Taken as it was. -/
def tkSame (x0 x1 x2 x3 x4 x6 x7 x10 x11 x12 x13 : Int) (x5 : Bool) (xa xd : Option Addr) (xn xc xm xe : Nat) (xF xG : Nat → Int) (I : Nat) (w : World) (e : Ending) (w' : World) : Prop :=
  ∃ a1 c1 a2 c2, e = .returned (.agg #[.int .i64 x0, .int .i64 x1, .int .i64 x2, .int .i64 x3, .int .i64 x4, .bool x5, .int .i64 x6, .int .i64 x7, .slice a1 xn c1, .slice a2 xm c2, .int .i64 x10, .int .i64 x11, .int .i64 x12, .int .i64 x13]) ∧ IntsAt w' .i64 a1 xn xF ∧ IntsAt w' .i64 a2 xm xG ∧ InL w' I [] false ∧ w.grownBy w' (some I)

theorem lr (n : Nat) (F : Nat → Int) (j : Nat) (hj : j < n) : ((List.range n).map F).getD j 0 = F j := by simp [List.getD, hj]

theorem take_same (x0 x1 x2 x3 x4 x6 x7 x10 x11 x12 x13 : Int) (x5 : Bool) (xa xd : Option Addr) (xn xc xm xe : Nat) (xF xG : Nat → Int) {w : World} {I : Nat} (h : InL w I (catP (rmP x0 x1 x2 x3 x4 x6 x7 x10 x11 x12 x13 x5 ((List.range xn).map xF) ((List.range xm).map xG))) false) (hr : rightP x0 x1 x2 x3 x4 x6 x7 x10 x11 x12 x13 x5 xa xd xn xc xm xe xF xG) :
    Calls Try.prog 56 #[.pointer (some ⟨I, 0, none⟩)] w fun e w' => tkSame x0 x1 x2 x3 x4 x6 x7 x10 x11 x12 x13 x5 xa xd xn xc xm xe xF xG I w e w' := by
  obtain ⟨r1, r2, rfl, r3, r4, r5, r6, r7, r8, r9, r10, r11, r12, r13, r14⟩ := hr
  have hub : ∀ x ∈ ((List.range xm).map xF), 0 ≤ x ∧ x ≤ 199 := fun x hx => by
    simp only [List.mem_map, List.mem_range] at hx
    obtain ⟨j, hj, rfl⟩ := hx
    exact (r3 j hj).1
  have hgb : ∀ x ∈ ((List.range xm).map xG), -1 ≤ x ∧ x ≤ 4 := fun x hx => by
    simp only [List.mem_map, List.mem_range] at hx
    obtain ⟨j, hj, rfl⟩ := hx
    exact (r3 j hj).2
  have hg := rmI_good (x10 := x10) (x11 := x11) (x12 := x12) (x13 := x13) (x5 := x5) (us := ((List.range xm).map xF)) (gs := ((List.range xm).map xG)) (by simp; omega) hub hgb r4 r5 r6 r7 r8 r9 r10
  have hfl := rmP_flat (x0 := x0) (x1 := x1) (x2 := x2) (x3 := x3) (x6 := x6) (x7 := x7) (x10 := x10) (x11 := x11) (x12 := x12) (x13 := x13) (x5 := x5) (us := ((List.range xm).map xF)) (gs := ((List.range xm).map xG)) (x4 := x4) (by omega) (fun x hx => by have := hgb x hx; omega)
  rw [hfl] at h
  refine (take_any h.inD (Nat.le_refl _)).mono ?_
  rintro e w' ⟨y0, y1, y2, y3, y4, y6, y7, y10, y11, y12, y13, y5, vs, hs, L', bad, hI, hgr, hJ, ⟨L9, b9, hJ9⟩, hl, _, _, _, _, _, _, _, _, _, _, hall, hres⟩
  obtain ⟨rfl, rfl, rfl, rfl, rfl, rfl, rfl, rfl, rfl, rfl, rfl, rfl, rfl, rfl, rfl, rfl⟩ := back_same hg rfl hJ hJ9 (by simp) hl (fun x hx => by
    simp only [List.mem_cons, List.not_mem_nil, or_false] at hx
    rcases hx with rfl | rfl | rfl | rfl <;> omega) hall
  rcases hres with ⟨hb, _⟩ | ⟨_, a1, a2, c1, c2, rfl, hx, hy, _⟩
  · cases hb
  · simp only [List.length_map, List.length_range] at hx hy ⊢
    exact ⟨a1, c1, a2, c2, by simp, ints_congr hx (fun j hj => lr _ _ j hj), ints_congr hy (fun j hj => lr _ _ j hj), hI.inL, hgr⟩

set_option maxRecDepth 100000 in
set_option maxHeartbeats 3200000 in
theorem rmaBack_many (x0 x1 x2 x3 x4 x6 x7 x10 x11 x12 x13 : Int) (x5 : Bool) (xa xd : Option Addr) (xn xc xm xe : Nat) (xF xG : Nat → Int) (w : World) (hx : IntsAt w .i64 xa xn xF) (hy : IntsAt w .i64 xd xm xG) (hxa : xa = none → xn = 0 ∧ xc = 0) (hxd : xd = none → xm = 0 ∧ xe = 0) (B0 : x0 < 9223372036854775808) (B1 : x1 < 9223372036854775808) (B2 : x2 < 9223372036854775808) (B3 : x3 < 9223372036854775808) (B6 : x6 < 9223372036854775808) (B7 : x7 < 9223372036854775808) (hXF : ∀ j, j < xn → xF j < 9223372036854775808) (hf : fewB xn xm = false) : Calls Try.prog 13 #[.agg #[.int .i64 x0, .int .i64 x1, .int .i64 x2, .int .i64 x3, .int .i64 x4, .bool x5, .int .i64 x6, .int .i64 x7, .slice xa xn xc, .slice xd xm xe, .int .i64 x10, .int .i64 x11, .int .i64 x12, .int .i64 x13]] w fun e w' => e = .returned (.bool true) ∧ Below w.heap.size w w' := by
  have HN : Hid (∀ w', Calls Try.prog 48 #[] w' fun e w'' => e = .returned (.bool true) ∧ w' = w'') := Lib.hid awake14
  have HF : Hid (∀ w', Calls Try.prog 49 #[.agg #[.int .i64 x0, .int .i64 x1, .int .i64 x2, .int .i64 x3, .int .i64 x4, .bool x5, .int .i64 x6, .int .i64 x7, .slice xa xn xc, .slice xd xm xe, .int .i64 x10, .int .i64 x11, .int .i64 x12, .int .i64 x13]] w' fun e w'' => e = .returned (.bool (fewB xn xm)) ∧ Below w'.heap.size w' w'') := Lib.hid (fun w' => Ma.few_any x0 x1 x2 x3 x4 x6 x7 x10 x11 x12 x13 x5 xa xd xn xc xm xe w' (by have := hx.1; omega) (by have := hy.1; omega))
  have hB0 : (w.alloc (.cells #[.int .i64 x0, .int .i64 x1, .int .i64 x2, .int .i64 x3, .int .i64 x4, .bool x5, .int .i64 x6, .int .i64 x7, .slice xa xn xc, .slice xd xm xe, .int .i64 x10, .int .i64 x11, .int .i64 x12, .int .i64 x13] 73)).heap[w.heap.size]? = some (.cells #[.int .i64 x0, .int .i64 x1, .int .i64 x2, .int .i64 x3, .int .i64 x4, .bool x5, .int .i64 x6, .int .i64 x7, .slice xa xn xc, .slice xd xm xe, .int .i64 x10, .int .i64 x11, .int .i64 x12, .int .i64 x13] 73 (0, 0)) := heap_alloc_new _ _
  have hb0 := Lib.hid ((Below.refl w.heap.size w).alloc (Nat.le_refl _) (.cells #[.int .i64 x0, .int .i64 x1, .int .i64 x2, .int .i64 x3, .int .i64 x4, .bool x5, .int .i64 x6, .int .i64 x7, .slice xa xn xc, .slice xd xm xe, .int .i64 x10, .int .i64 x11, .int .i64 x12, .int .i64 x13] 73))
  have hs0 : (w.alloc (.cells #[.int .i64 x0, .int .i64 x1, .int .i64 x2, .int .i64 x3, .int .i64 x4, .bool x5, .int .i64 x6, .int .i64 x7, .slice xa xn xc, .slice xd xm xe, .int .i64 x10, .int .i64 x11, .int .i64 x12, .int .i64 x13] 73)).heap.size = w.heap.size + 1 := by simp
  replace hB0 := Lib.hid hB0
  replace hs0 := Lib.hid hs0
  rw [hf] at HF
  clear hf hx hy
  go_enter Try.func13, Try.ntmps13
  go_wp2_with fail
  refine (HN.out _).mono ?_
  rintro e w1 ⟨rfl, rfl⟩
  go_wp2_with fail
  generalize w.alloc (.cells #[.int .i64 x0, .int .i64 x1, .int .i64 x2, .int .i64 x3, .int .i64 x4, .bool x5, .int .i64 x6, .int .i64 x7, .slice xa xn xc, .slice xd xm xe, .int .i64 x10, .int .i64 x11, .int .i64 x12, .int .i64 x13] 73) = w0 at *
  refine (HF.out _).mono ?_
  rintro e w1 ⟨rfl, b1⟩
  have hb1 := Lib.hid (hb0.out.trans (below_lee b1 (by rw [hs0.out]; omega)))
  clear b1
  go_wp2_with fail
  refine (HN.out _).mono ?_
  rintro e w2 ⟨rfl, rfl⟩
  go_wp2_with fail
  go_ret
  exact ⟨rfl, hb1.out⟩

set_option maxRecDepth 100000 in
set_option maxHeartbeats 6400000 in
theorem rmaBack_few (x0 x1 x2 x3 x4 x6 x7 x10 x11 x12 x13 : Int) (x5 : Bool) (xa xd : Option Addr) (xn xc xm xe : Nat) (xF xG : Nat → Int) (w : World) (hx : IntsAt w .i64 xa xn xF) (hy : IntsAt w .i64 xd xm xG) (hxa : xa = none → xn = 0 ∧ xc = 0) (hxd : xd = none → xm = 0 ∧ xe = 0) (B0 : x0 < 9223372036854775808) (B1 : x1 < 9223372036854775808) (B2 : x2 < 9223372036854775808) (B3 : x3 < 9223372036854775808) (B6 : x6 < 9223372036854775808) (B7 : x7 < 9223372036854775808) (hXF : ∀ j, j < xn → xF j < 9223372036854775808) (hf : fewB xn xm = true) : Calls Try.prog 13 #[.agg #[.int .i64 x0, .int .i64 x1, .int .i64 x2, .int .i64 x3, .int .i64 x4, .bool x5, .int .i64 x6, .int .i64 x7, .slice xa xn xc, .slice xd xm xe, .int .i64 x10, .int .i64 x11, .int .i64 x12, .int .i64 x13]] w fun e w' => e = .returned (.bool true) ∧ Below w.heap.size w w' := by
  have hfn : xn ≤ 300 ∧ xm ≤ 300 := by simpa [fewB] using hf
  have HN : Hid (∀ w', Calls Try.prog 48 #[] w' fun e w'' => e = .returned (.bool true) ∧ w' = w'') := Lib.hid awake14
  have HF : Hid (∀ w', Calls Try.prog 49 #[.agg #[.int .i64 x0, .int .i64 x1, .int .i64 x2, .int .i64 x3, .int .i64 x4, .bool x5, .int .i64 x6, .int .i64 x7, .slice xa xn xc, .slice xd xm xe, .int .i64 x10, .int .i64 x11, .int .i64 x12, .int .i64 x13]] w' fun e w'' => e = .returned (.bool (fewB xn xm)) ∧ Below w'.heap.size w' w'') := Lib.hid (fun w' => Ma.few_any x0 x1 x2 x3 x4 x6 x7 x10 x11 x12 x13 x5 xa xd xn xc xm xe w' (by have := hx.1; omega) (by have := hy.1; omega))
  have hB0 : (w.alloc (.cells #[.int .i64 x0, .int .i64 x1, .int .i64 x2, .int .i64 x3, .int .i64 x4, .bool x5, .int .i64 x6, .int .i64 x7, .slice xa xn xc, .slice xd xm xe, .int .i64 x10, .int .i64 x11, .int .i64 x12, .int .i64 x13] 73)).heap[w.heap.size]? = some (.cells #[.int .i64 x0, .int .i64 x1, .int .i64 x2, .int .i64 x3, .int .i64 x4, .bool x5, .int .i64 x6, .int .i64 x7, .slice xa xn xc, .slice xd xm xe, .int .i64 x10, .int .i64 x11, .int .i64 x12, .int .i64 x13] 73 (0, 0)) := heap_alloc_new _ _
  have hb0 := Lib.hid ((Below.refl w.heap.size w).alloc (Nat.le_refl _) (.cells #[.int .i64 x0, .int .i64 x1, .int .i64 x2, .int .i64 x3, .int .i64 x4, .bool x5, .int .i64 x6, .int .i64 x7, .slice xa xn xc, .slice xd xm xe, .int .i64 x10, .int .i64 x11, .int .i64 x12, .int .i64 x13] 73))
  have hs0 : (w.alloc (.cells #[.int .i64 x0, .int .i64 x1, .int .i64 x2, .int .i64 x3, .int .i64 x4, .bool x5, .int .i64 x6, .int .i64 x7, .slice xa xn xc, .slice xd xm xe, .int .i64 x10, .int .i64 x11, .int .i64 x12, .int .i64 x13] 73)).heap.size = w.heap.size + 1 := by simp
  replace hB0 := Lib.hid hB0
  replace hs0 := Lib.hid hs0
  rw [hf] at HF
  have HT : Hid (∀ w', Below w.heap.size w w' → Calls Try.prog 51 #[.agg #[.int .i64 x0, .int .i64 x1, .int .i64 x2, .int .i64 x3, .int .i64 x4, .bool x5, .int .i64 x6, .int .i64 x7, .slice xa xn xc, .slice xd xm xe, .int .i64 x10, .int .i64 x11, .int .i64 x12, .int .i64 x13]] w' fun e w'' => clonePost x0 x1 x2 x3 x4 x6 x7 x10 x11 x12 x13 x5 xa xd xn xc xm xe xF xG w' e w'') := Lib.hid (fun w' hb => theirs14 x0 x1 x2 x3 x4 x6 x7 x10 x11 x12 x13 x5 xa xd xn xc xm xe xF xG w' (hx.below hb) (hy.below hb) hxa hxd hfn.1 hfn.2)
  have HRT : Hid (∀ w', Below w.heap.size w w' → Calls Try.prog 55 #[.agg #[.int .i64 x0, .int .i64 x1, .int .i64 x2, .int .i64 x3, .int .i64 x4, .bool x5, .int .i64 x6, .int .i64 x7, .slice xa xn xc, .slice xd xm xe, .int .i64 x10, .int .i64 x11, .int .i64 x12, .int .i64 x13]] w' fun e w'' => rtPost (rightP x0 x1 x2 x3 x4 x6 x7 x10 x11 x12 x13 x5 xa xd xn xc xm xe xF xG) w' e w'') := Lib.hid (fun w' hb => right_any x0 x1 x2 x3 x4 x6 x7 x10 x11 x12 x13 x5 xa xd xn xc xm xe xF xG w' (hx.below hb) (hy.below hb))
  have HS : Hid (∀ (a1 a2 : Option Addr) (c1 c2 : Nat) w', Below w.heap.size w w' → IntsAt w' .i64 a1 xn xF → IntsAt w' .i64 a2 xm xG → Calls Try.prog 52 #[.agg #[.int .i64 x0, .int .i64 x1, .int .i64 x2, .int .i64 x3, .int .i64 x4, .bool x5, .int .i64 x6, .int .i64 x7, .slice a1 xn c1, .slice a2 xm c2, .int .i64 x10, .int .i64 x11, .int .i64 x12, .int .i64 x13], .agg #[.int .i64 x0, .int .i64 x1, .int .i64 x2, .int .i64 x3, .int .i64 x4, .bool x5, .int .i64 x6, .int .i64 x7, .slice xa xn xc, .slice xd xm xe, .int .i64 x10, .int .i64 x11, .int .i64 x12, .int .i64 x13]] w' fun e w'' => e = .returned (.bool true) ∧ Below w'.heap.size w' w'') := Lib.hid (fun a1 a2 c1 c2 w' hb h1 h2 => by
    have := same_any x0 x1 x2 x3 x4 x6 x7 x10 x11 x12 x13 x5 a1 a2 xn c1 xm c2 xF xG x0 x1 x2 x3 x4 x6 x7 x10 x11 x12 x13 x5 xa xd xn xc xm xe xF xG w' h1 h2 (hx.below hb) (hy.below hb)
    rw [eqR_self x0 x1 x2 x3 x4 x6 x7 x10 x11 x12 x13 x5 xa xd xn xc xm xe xF xG] at this
    exact this)
  have HO : Hid (∀ (a1 a2 : Option Addr) (c1 c2 : Nat) w', Calls Try.prog 57 #[.agg #[.int .i64 x0, .int .i64 x1, .int .i64 x2, .int .i64 x3, .int .i64 x4, .bool x5, .int .i64 x6, .int .i64 x7, .slice a1 xn c1, .slice a2 xm c2, .int .i64 x10, .int .i64 x11, .int .i64 x12, .int .i64 x13]] w' fun e w'' => e = .returned (.agg #[.int .i64 x0, .int .i64 x1, .int .i64 x2, .int .i64 x3, .int .i64 x4, .bool x5, .int .i64 x6, .int .i64 x7, .slice a1 xn c1, .slice a2 xm c2, .int .i64 x10, .int .i64 x11, .int .i64 x12, .int .i64 x13]) ∧ Below w'.heap.size w' w'') := Lib.hid (fun a1 a2 c1 c2 w' => ours14 x0 x1 x2 x3 x4 x6 x7 x10 x11 x12 x13 x5 a1 a2 xn c1 xm c2 xF xG w')
  have hfw := rfew (x0 := x0) (x1 := x1) (x2 := x2) (x3 := x3) (x4 := x4) (x6 := x6) (x7 := x7) (x10 := x10) (x11 := x11) (x12 := x12) (x13 := x13) (x5 := x5) (us := ((List.range xn).map xF)) (gs := ((List.range xm).map xG)) (by simp; omega) (by simp; omega)
  have hgd : rightP x0 x1 x2 x3 x4 x6 x7 x10 x11 x12 x13 x5 xa xd xn xc xm xe xF xG → (rmP x0 x1 x2 x3 x4 x6 x7 x10 x11 x12 x13 x5 ((List.range xn).map xF) ((List.range xm).map xG)).all goodP = true := fun hr => by
    obtain ⟨r1, r2, rfl, r3, r4, r5, r6, r7, r8, r9, r10, _⟩ := hr
    have hub : ∀ x ∈ ((List.range xm).map xF), 0 ≤ x ∧ x ≤ 199 := fun x hx => by
      simp only [List.mem_map, List.mem_range] at hx
      obtain ⟨j, hj, rfl⟩ := hx
      exact (r3 j hj).1
    have hgb : ∀ x ∈ ((List.range xm).map xG), -1 ≤ x ∧ x ≤ 4 := fun x hx => by
      simp only [List.mem_map, List.mem_range] at hx
      obtain ⟨j, hj, rfl⟩ := hx
      exact (r3 j hj).2
    rw [rmP_flat (by omega) (fun x hx => by have := hgb x hx; omega)]
    exact flat_good (rmI_good (by simp; omega) hub hgb r4 r5 r6 r7 r8 r9 r10)
  replace hfw := Lib.hid hfw
  replace hgd := Lib.hid hgd
  replace hXF := Lib.hid hXF
  clear hf hx hy hxa hxd
  go_enter Try.func13, Try.ntmps13
  go_wp2_with fail
  refine (HN.out _).mono ?_
  rintro e w1 ⟨rfl, rfl⟩
  go_wp2_with fail
  generalize w.alloc (.cells #[.int .i64 x0, .int .i64 x1, .int .i64 x2, .int .i64 x3, .int .i64 x4, .bool x5, .int .i64 x6, .int .i64 x7, .slice xa xn xc, .slice xd xm xe, .int .i64 x10, .int .i64 x11, .int .i64 x12, .int .i64 x13] 73) = w0 at *
  have hl0 : w.heap.size < w0.heap.size := by rw [hs0.out]; omega
  refine (HF.out _).mono ?_
  rintro e w1 ⟨rfl, b1⟩
  have hB1 := Lib.hid ((b1.block w.heap.size (by have := hl0; omega)).trans hB0.out)
  have hl1 : w.heap.size < w1.heap.size := Nat.lt_of_lt_of_le hl0 b1.size
  have hb1 := Lib.hid (hb0.out.trans (below_lee b1 (Nat.le_of_lt hl0)))
  obtain ⟨k0, k1, k2, k3, k4, k5, k6, k7, k8, k9, k10, k11, k12, k13⟩ := rbox_cells x0 x1 x2 x3 x4 x6 x7 x10 x11 x12 x13 x5 xa xd xn xc xm xe xF xG hB1.out
  clear b1
  have hO2 := newOut w1
  have hB2 := Lib.hid (alloc_keep (o := .cells #[.slice none 0 0, .bool false] 39) hB1.out)
  have hb2 := Lib.hid (hb1.out.alloc (Nat.le_of_lt hl1) (.cells #[.slice none 0 0, .bool false] 39))
  have hs2 : (w1.alloc (.cells #[.slice none 0 0, .bool false] 39)).heap.size = w1.heap.size + 1 := by simp
  clear k0 k1 k2 k3 k4 k5 k6 k7 k8 k9 k10 k11 k12 k13
  obtain ⟨k0, k1, k2, k3, k4, k5, k6, k7, k8, k9, k10, k11, k12, k13⟩ := rbox_cells x0 x1 x2 x3 x4 x6 x7 x10 x11 x12 x13 x5 xa xd xn xc xm xe xF xG hB2.out
  replace hO2 := Lib.hid hO2
  replace hs2 := Lib.hid hs2
  go_upto_region 4 with fail
  generalize w1.alloc (.cells #[.slice none 0 0, .bool false] 39) = w2 at *
  have hO2l : w1.heap.size < w2.heap.size := by rw [hs2.out]; omega
  generalize w1.heap.size = O at *
  have hl2 : w.heap.size < w2.heap.size := by omega
  clear hs2
  go_wp2_with fail
  refine (HT.out _ hb2.out).mono ?_
  rintro e w3 ⟨a3, c3, a4, c4, rfl, i3, i4, _, _, b3⟩
  have hO3 : OutAt w3 O (.slice none 0 0) [] false := hO2.out.keepB b3
  have HPUT := rput_any x0 x1 x2 x3 x4 x6 x7 x10 x11 x12 x13 x5 a3 a4 xn c3 xm c4 xF xG w3 O hO3 B0 B1 B2 B3 B6 B7 i3 i4 (ints_not_out i3 hO3) (ints_not_out i4 hO3) (by omega) (by omega) hXF.out
  have hB3 := Lib.hid ((b3.block w.heap.size (by have := hl2; omega)).trans hB2.out)
  have hl3 : w.heap.size < w3.heap.size := Nat.lt_of_lt_of_le hl2 b3.size
  have hb3 := Lib.hid (hb2.out.trans (below_lee b3 (Nat.le_of_lt hl2)))
  clear k0 k1 k2 k3 k4 k5 k6 k7 k8 k9 k10 k11 k12 k13
  obtain ⟨k0, k1, k2, k3, k4, k5, k6, k7, k8, k9, k10, k11, k12, k13⟩ := rbox_cells x0 x1 x2 x3 x4 x6 x7 x10 x11 x12 x13 x5 xa xd xn xc xm xe xF xG hB3.out
  clear b3 i3 i4 hO3
  replace HPUT := Lib.hid HPUT
  go_wp2_with fail
  refine HPUT.out.mono ?_
  rintro e w4 ⟨rfl, v4, ho4, q4⟩
  have hB4 := Lib.hid ((q4.block w.heap.size hl1).trans hB3.out)
  have hl4 : w.heap.size < w4.heap.size := Nat.lt_of_lt_of_le hl3 q4.size
  have hb4 := Lib.hid (hb3.out.trans (q4.mono (Nat.le_of_lt hl1)))
  have HE := Lib.hid (end_st ho4 hfw.out)
  clear q4 ho4 k0 k1 k2 k3 k4 k5 k6 k7 k8 k9 k10 k11 k12 k13
  obtain ⟨k0, k1, k2, k3, k4, k5, k6, k7, k8, k9, k10, k11, k12, k13⟩ := rbox_cells x0 x1 x2 x3 x4 x6 x7 x10 x11 x12 x13 x5 xa xd xn xc xm xe xF xG hB4.out
  generalize hps : rmP x0 x1 x2 x3 x4 x6 x7 x10 x11 x12 x13 x5 ((List.range xn).map xF) ((List.range xm).map xG) = ps at *
  replace hps := Lib.hid hps
  go_wp2_with fail
  refine HE.out.mono ?_
  rintro e w5 hE
  rcases hE with ⟨_, a5, c5, rfl, g1, g2, g3, g4, g5, q5⟩ | ⟨hbad, rfl, rfl⟩
  rotate_left
  · replace hbad := Lib.hid hbad
    have HR5 := Lib.hid (HRT.out _ hb4.out)
    go_wp2_with fail
    refine HR5.out.mono ?_
    rintro e w6 ⟨RB, rfl, hRB, q6⟩
    have hb6 := Lib.hid (hb4.out.trans (below_lee q6 (Nat.le_of_lt hl4)))
    clear q6
    cases RB with
    | false =>
      go_wp2_with fail
      go_ret
      exact ⟨rfl, hb6.out⟩
    | true =>
      have := hgd.out (hRB rfl)
      rw [hbad.out] at this
      cases this
  · have hC := Lib.hid g1
    have hCn := Lib.hid g2
    have hok : okB (catP ps) := fun x hx => by
      simp only [catP, List.mem_flatMap] at hx
      obtain ⟨p, _, hx⟩ := hx
      exact okB_leB p.2 p.1 x hx
    have hCl : (catP ps).length ≤ 1000000 := by
      by_cases hgp : ps.all goodP = true
      · have hw := hfw.out
        have := hw.len
        rw [st_good hgp] at this
        exact this
      · rename_i hgg
        exact absurd hgg hgp
    replace hok := Lib.hid hok
    have hB5 := Lib.hid ((q5.block w.heap.size (by have := hl4; omega)).trans hB4.out)
    have hl5 : w.heap.size < w5.heap.size := Nat.lt_of_lt_of_le hl4 q5.size
    have hb5 := Lib.hid (hb4.out.trans (below_lee q5 (Nat.le_of_lt hl4)))
    clear k0 k1 k2 k3 k4 k5 k6 k7 k8 k9 k10 k11 k12 k13
    obtain ⟨k0, k1, k2, k3, k4, k5, k6, k7, k8, k9, k10, k11, k12, k13⟩ := rbox_cells x0 x1 x2 x3 x4 x6 x7 x10 x11 x12 x13 x5 xa xd xn xc xm xe xF xG hB5.out
    clear q5 g1 g2 g3 g4 g5
    have HR5 := Lib.hid (HRT.out _ hb5.out)
    generalize hCL : (catP ps).length = CL at *
    replace hCL := Lib.hid hCL
    go_wp2_with fail
    refine HR5.out.mono ?_
    rintro e w6 ⟨RB, rfl, hRB, q6⟩
    have hCs := Lib.hid (IntsAt.below hC.out q6)
    have hB6 := Lib.hid ((q6.block w.heap.size (by have := hl5; omega)).trans hB5.out)
    have hl6 : w.heap.size < w6.heap.size := Nat.lt_of_lt_of_le hl5 q6.size
    have hb6 := Lib.hid (hb5.out.trans (below_lee q6 (Nat.le_of_lt hl5)))
    clear k0 k1 k2 k3 k4 k5 k6 k7 k8 k9 k10 k11 k12 k13
    obtain ⟨k0, k1, k2, k3, k4, k5, k6, k7, k8, k9, k10, k11, k12, k13⟩ := rbox_cells x0 x1 x2 x3 x4 x6 x7 x10 x11 x12 x13 x5 xa xd xn xc xm xe xF xG hB6.out
    clear q6 hC
    cases RB with
    | false =>
      go_wp2_with fail
      go_ret
      exact ⟨rfl, hb6.out⟩
    | true =>
      have hr := Lib.hid (hRB rfl)
      clear hRB
      have H16 := newIn_l (c := c5) hCs.out (fun e => (hCn.out e).1) (by omega) (fun j hj => ok_gtD hok.out j)
      rw [show lof CL (fun j => (catP ps).getD j 0) = catP ps from by rw [← hCL.out]; exact lof_gtD _] at H16
      replace H16 := Lib.hid H16
      clear hCs hCn
      go_wp2_with fail
      refine H16.out.mono ?_
      rintro e w7 ⟨I, rfl, hI, hIs, q7⟩
      have hB7 := Lib.hid ((q7.block w.heap.size (by have := hl6; omega)).trans hB6.out)
      have hl7 : w.heap.size < w7.heap.size := Nat.lt_of_lt_of_le hl6 q7.size
      have hb7 := Lib.hid (hb6.out.trans (below_lee q7 (Nat.le_of_lt hl6)))
      clear k0 k1 k2 k3 k4 k5 k6 k7 k8 k9 k10 k11 k12 k13
      obtain ⟨k0, k1, k2, k3, k4, k5, k6, k7, k8, k9, k10, k11, k12, k13⟩ := rbox_cells x0 x1 x2 x3 x4 x6 x7 x10 x11 x12 x13 x5 xa xd xn xc xm xe xF xG hB7.out
      clear q7
      have hIl := hI.lt
      rw [← hps.out] at hI
      have HTK := Lib.hid (take_same x0 x1 x2 x3 x4 x6 x7 x10 x11 x12 x13 x5 xa xd xn xc xm xe xF xG hI hr.out)
      clear hI
      go_wp2_with fail
      refine HTK.out.mono ?_
      rintro e w8 ⟨ta, tc, tb, te, rfl, it1, it2, hI8, q8⟩
      have hB8 := (q8.block w.heap.size hl7 (fun e => by injection e with e; omega)).trans hB7.out
      have hb8 := hb7.out.trans ((grown_below q8 hIl).mono (by omega))
      have hl8 : w.heap.size < w8.heap.size := Nat.lt_of_lt_of_le hl7 q8.size
      have hD9 : (w8.alloc (.cells #[.int .i64 x0, .int .i64 x1, .int .i64 x2, .int .i64 x3, .int .i64 x4, .bool x5, .int .i64 x6, .int .i64 x7, .slice ta xn tc, .slice tb xm te, .int .i64 x10, .int .i64 x11, .int .i64 x12, .int .i64 x13] 76)).heap[w8.heap.size]? = some (.cells #[.int .i64 x0, .int .i64 x1, .int .i64 x2, .int .i64 x3, .int .i64 x4, .bool x5, .int .i64 x6, .int .i64 x7, .slice ta xn tc, .slice tb xm te, .int .i64 x10, .int .i64 x11, .int .i64 x12, .int .i64 x13] 76 (0, 0)) := heap_alloc_new _ _
      have hB9 := alloc_keep (o := .cells #[.int .i64 x0, .int .i64 x1, .int .i64 x2, .int .i64 x3, .int .i64 x4, .bool x5, .int .i64 x6, .int .i64 x7, .slice ta xn tc, .slice tb xm te, .int .i64 x10, .int .i64 x11, .int .i64 x12, .int .i64 x13] 76) hB8
      have hb9 := Lib.hid (hb8.alloc (Nat.le_of_lt hl8) (.cells #[.int .i64 x0, .int .i64 x1, .int .i64 x2, .int .i64 x3, .int .i64 x4, .bool x5, .int .i64 x6, .int .i64 x7, .slice ta xn tc, .slice tb xm te, .int .i64 x10, .int .i64 x11, .int .i64 x12, .int .i64 x13] 76))
      have hs9 : (w8.alloc (.cells #[.int .i64 x0, .int .i64 x1, .int .i64 x2, .int .i64 x3, .int .i64 x4, .bool x5, .int .i64 x6, .int .i64 x7, .slice ta xn tc, .slice tb xm te, .int .i64 x10, .int .i64 x11, .int .i64 x12, .int .i64 x13] 76)).heap.size = w8.heap.size + 1 := by simp
      have j1 := Lib.hid (Ma.ints_alloc it1 (.cells #[.int .i64 x0, .int .i64 x1, .int .i64 x2, .int .i64 x3, .int .i64 x4, .bool x5, .int .i64 x6, .int .i64 x7, .slice ta xn tc, .slice tb xm te, .int .i64 x10, .int .i64 x11, .int .i64 x12, .int .i64 x13] 76))
      have j2 := Lib.hid (Ma.ints_alloc it2 (.cells #[.int .i64 x0, .int .i64 x1, .int .i64 x2, .int .i64 x3, .int .i64 x4, .bool x5, .int .i64 x6, .int .i64 x7, .slice ta xn tc, .slice tb xm te, .int .i64 x10, .int .i64 x11, .int .i64 x12, .int .i64 x13] 76))
      have jI := Lib.hid (hI8.keep ((Below.refl _ _).alloc (Nat.le_refl _) (.cells #[.int .i64 x0, .int .i64 x1, .int .i64 x2, .int .i64 x3, .int .i64 x4, .bool x5, .int .i64 x6, .int .i64 x7, .slice ta xn tc, .slice tb xm te, .int .i64 x10, .int .i64 x11, .int .i64 x12, .int .i64 x13] 76)))
      replace hD9 := Lib.hid hD9
      replace hB9 := Lib.hid hB9
      replace hs9 := Lib.hid hs9
      clear k0 k1 k2 k3 k4 k5 k6 k7 k8 k9 k10 k11 k12 k13 it1 it2 hI8 q8 hB8 hb8
      go_upto_region 10 with fail
      generalize w8.alloc (.cells #[.int .i64 x0, .int .i64 x1, .int .i64 x2, .int .i64 x3, .int .i64 x4, .bool x5, .int .i64 x6, .int .i64 x7, .slice ta xn tc, .slice tb xm te, .int .i64 x10, .int .i64 x11, .int .i64 x12, .int .i64 x13] 76) = w9 at *
      have hP9 : w8.heap.size < w9.heap.size := by rw [hs9.out]; omega
      generalize w8.heap.size = P at *
      clear hs9
      have hl9 : w.heap.size < w9.heap.size := by omega
      have KS : Hid (∀ w', Below w9.heap.size w9 w' → (w'.cell? ⟨w.heap.size, 0, none⟩ = some (.int .i64 x0) ∧ w'.cell? ⟨w.heap.size, 1, none⟩ = some (.int .i64 x1) ∧ w'.cell? ⟨w.heap.size, 2, none⟩ = some (.int .i64 x2) ∧ w'.cell? ⟨w.heap.size, 3, none⟩ = some (.int .i64 x3) ∧ w'.cell? ⟨w.heap.size, 4, none⟩ = some (.int .i64 x4) ∧ w'.cell? ⟨w.heap.size, 5, none⟩ = some (.bool x5) ∧ w'.cell? ⟨w.heap.size, 6, none⟩ = some (.int .i64 x6) ∧ w'.cell? ⟨w.heap.size, 7, none⟩ = some (.int .i64 x7) ∧ w'.cell? ⟨w.heap.size, 8, none⟩ = some (.slice xa xn xc) ∧ w'.cell? ⟨w.heap.size, 9, none⟩ = some (.slice xd xm xe) ∧ w'.cell? ⟨w.heap.size, 10, none⟩ = some (.int .i64 x10) ∧ w'.cell? ⟨w.heap.size, 11, none⟩ = some (.int .i64 x11) ∧ w'.cell? ⟨w.heap.size, 12, none⟩ = some (.int .i64 x12) ∧ w'.cell? ⟨w.heap.size, 13, none⟩ = some (.int .i64 x13)) ∧ (w'.cell? ⟨P, 0, none⟩ = some (.int .i64 x0) ∧ w'.cell? ⟨P, 1, none⟩ = some (.int .i64 x1) ∧ w'.cell? ⟨P, 2, none⟩ = some (.int .i64 x2) ∧ w'.cell? ⟨P, 3, none⟩ = some (.int .i64 x3) ∧ w'.cell? ⟨P, 4, none⟩ = some (.int .i64 x4) ∧ w'.cell? ⟨P, 5, none⟩ = some (.bool x5) ∧ w'.cell? ⟨P, 6, none⟩ = some (.int .i64 x6) ∧ w'.cell? ⟨P, 7, none⟩ = some (.int .i64 x7) ∧ w'.cell? ⟨P, 8, none⟩ = some (.slice ta xn tc) ∧ w'.cell? ⟨P, 9, none⟩ = some (.slice tb xm te) ∧ w'.cell? ⟨P, 10, none⟩ = some (.int .i64 x10) ∧ w'.cell? ⟨P, 11, none⟩ = some (.int .i64 x11) ∧ w'.cell? ⟨P, 12, none⟩ = some (.int .i64 x12) ∧ w'.cell? ⟨P, 13, none⟩ = some (.int .i64 x13))) := Lib.hid (fun w' hq => ⟨rbox_cells x0 x1 x2 x3 x4 x6 x7 x10 x11 x12 x13 x5 xa xd xn xc xm xe xF xG ((hq.block w.heap.size hl9).trans hB9.out), rbox_cells x0 x1 x2 x3 x4 x6 x7 x10 x11 x12 x13 x5 ta tb xn tc xm te xF xG ((hq.block P hP9).trans hD9.out)⟩)
      have hb := Lib.hid (Below.drew (Below.refl w9.heap.size w9))
      replace j1 := Lib.hid (j1.out.below hb.out)
      replace j2 := Lib.hid (j2.out.below hb.out)
      replace jI := Lib.hid (jI.out.keep hb.out)
      clear hB1 hB2 hB3 hB4 hB5 hB6 hB7 hB0 HT HRT HF HN HE HPUT HR5 H16 HTK hgd hfw hXF hr hok
      go_region_held3 (fun w' => (w'.cell? ⟨w.heap.size, 0, none⟩ = some (.int .i64 x0) ∧ w'.cell? ⟨w.heap.size, 1, none⟩ = some (.int .i64 x1) ∧ w'.cell? ⟨w.heap.size, 2, none⟩ = some (.int .i64 x2) ∧ w'.cell? ⟨w.heap.size, 3, none⟩ = some (.int .i64 x3) ∧ w'.cell? ⟨w.heap.size, 4, none⟩ = some (.int .i64 x4) ∧ w'.cell? ⟨w.heap.size, 5, none⟩ = some (.bool x5) ∧ w'.cell? ⟨w.heap.size, 6, none⟩ = some (.int .i64 x6) ∧ w'.cell? ⟨w.heap.size, 7, none⟩ = some (.int .i64 x7) ∧ w'.cell? ⟨w.heap.size, 8, none⟩ = some (.slice xa xn xc) ∧ w'.cell? ⟨w.heap.size, 9, none⟩ = some (.slice xd xm xe) ∧ w'.cell? ⟨w.heap.size, 10, none⟩ = some (.int .i64 x10) ∧ w'.cell? ⟨w.heap.size, 11, none⟩ = some (.int .i64 x11) ∧ w'.cell? ⟨w.heap.size, 12, none⟩ = some (.int .i64 x12) ∧ w'.cell? ⟨w.heap.size, 13, none⟩ = some (.int .i64 x13)) ∧ (w'.cell? ⟨P, 0, none⟩ = some (.int .i64 x0) ∧ w'.cell? ⟨P, 1, none⟩ = some (.int .i64 x1) ∧ w'.cell? ⟨P, 2, none⟩ = some (.int .i64 x2) ∧ w'.cell? ⟨P, 3, none⟩ = some (.int .i64 x3) ∧ w'.cell? ⟨P, 4, none⟩ = some (.int .i64 x4) ∧ w'.cell? ⟨P, 5, none⟩ = some (.bool x5) ∧ w'.cell? ⟨P, 6, none⟩ = some (.int .i64 x6) ∧ w'.cell? ⟨P, 7, none⟩ = some (.int .i64 x7) ∧ w'.cell? ⟨P, 8, none⟩ = some (.slice ta xn tc) ∧ w'.cell? ⟨P, 9, none⟩ = some (.slice tb xm te) ∧ w'.cell? ⟨P, 10, none⟩ = some (.int .i64 x10) ∧ w'.cell? ⟨P, 11, none⟩ = some (.int .i64 x11) ∧ w'.cell? ⟨P, 12, none⟩ = some (.int .i64 x12) ∧ w'.cell? ⟨P, 13, none⟩ = some (.int .i64 x13))) (first | exact KS.out _ hb.out)
        (first
          | (go_at_call 57; (with_reducible refine (HO.out ta tb tc te _).mono ?_); rintro e wk ⟨rfl, hk⟩; replace j1 := Lib.hid (j1.out.below hk); replace j2 := Lib.hid (j2.out.below hk); replace jI := Lib.hid (jI.out.keep hk); replace hb := Lib.hid (hb.out.trans (below_lee hk hb.out.size)); clear hk)
          | (go_at_call 52; (with_reducible refine (HS.out ta tb tc te _ (hb9.out.trans (below_lee hb.out hb9.out.size)) j1.out j2.out).mono ?_); rintro e wk ⟨rfl, hk⟩; replace j1 := Lib.hid (j1.out.below hk); replace j2 := Lib.hid (j2.out.below hk); replace jI := Lib.hid (jI.out.keep hk); replace hb := Lib.hid (hb.out.trans (below_lee hk hb.out.size)); clear hk)
          | (go_at_call 23; (with_reducible refine (done_r jI.out).mono ?_); rintro e wk ⟨rfl, rfl⟩))
      all_goals
        go_wp2_with fail
        go_ret
        exact ⟨by simp, hb9.out.trans (below_lee hb.out hb9.out.size)⟩

theorem rmaBack_walk (x0 x1 x2 x3 x4 x6 x7 x10 x11 x12 x13 : Int) (x5 : Bool) (xa xd : Option Addr) (xn xc xm xe : Nat) (xF xG : Nat → Int) (w : World) (hx : IntsAt w .i64 xa xn xF) (hy : IntsAt w .i64 xd xm xG) (hxa : xa = none → xn = 0 ∧ xc = 0) (hxd : xd = none → xm = 0 ∧ xe = 0) (B0 : x0 < 9223372036854775808) (B1 : x1 < 9223372036854775808) (B2 : x2 < 9223372036854775808) (B3 : x3 < 9223372036854775808) (B6 : x6 < 9223372036854775808) (B7 : x7 < 9223372036854775808) (hXF : ∀ j, j < xn → xF j < 9223372036854775808) : Calls Try.prog 13 #[.agg #[.int .i64 x0, .int .i64 x1, .int .i64 x2, .int .i64 x3, .int .i64 x4, .bool x5, .int .i64 x6, .int .i64 x7, .slice xa xn xc, .slice xd xm xe, .int .i64 x10, .int .i64 x11, .int .i64 x12, .int .i64 x13]] w fun e w' => e = .returned (.bool true) ∧ Below w.heap.size w w' := by
  cases hf : fewB xn xm
  · exact rmaBack_many x0 x1 x2 x3 x4 x6 x7 x10 x11 x12 x13 x5 xa xd xn xc xm xe xF xG w hx hy hxa hxd B0 B1 B2 B3 B6 B7 hXF hf
  · exact rmaBack_few x0 x1 x2 x3 x4 x6 x7 x10 x11 x12 x13 x5 xa xd xn xc xm xe xF xG w hx hy hxa hxd B0 B1 B2 B3 B6 B7 hXF hf

end Go.Proofs.Ytnkgbigjpihfeaa.Kd
