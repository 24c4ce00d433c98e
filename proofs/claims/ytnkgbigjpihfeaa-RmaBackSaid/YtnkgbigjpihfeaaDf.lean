/- recoupref16.Formed at every command. -/
import Derived.Test.YtnkgbigjpihfeaaDe
import Derived.Deep.CutRange
import Derived.Deep.CutBlock
set_option linter.unusedVariables false
set_option linter.unusedSimpArgs false
namespace Go.Proofs.Ytnkgbigjpihfeaa.Kd
open Go.RowKit Go.Proofs.Ytnkgbigjpihfeaa.Lib
open Go.Proofs.Ytnkgbigjpihfeaa.Ma (alloc_keep alloc_at cbox_cells)

/-- The rest is nought. -/
def chainB (o : Int) (n : Nat) (r w : Int) (b : Bool) (m u g d q : Int) (y : Bool) : Bool := (o == 0) && (n == 0) && (r == 0) && (w == 0) && !b && (m == 0) && (u == 0) && (g == 0) && (d == 0) && (q == 0) && !y

def in1 (x : Int) : Prop := 0 ≤ x ∧ x ≤ 255
def in2 (x : Int) : Prop := 0 ≤ x ∧ x ≤ 65535
instance (x : Int) : Decidable (in1 x) := by unfold in1; infer_instance
instance (x : Int) : Decidable (in2 x) := by unfold in2; infer_instance
theorem good1 {x : Int} : goodP (x, 1) = decide (in1 x) := by unfold goodP; apply decide_eq_decide.2; unfold in1; simp only [p1]; omega
theorem good2 {x : Int} : goodP (x, 2) = decide (in2 x) := by unfold goodP; apply decide_eq_decide.2; unfold in2; simp only [p2]; omega
theorem good4 {x : Int} : goodP (x, 4) = decide (0 ≤ x ∧ x ≤ 4294967295) := by unfold goodP; apply decide_eq_decide.2; simp only [p4]; omega
theorem in1_fl (b : Bool) : in1 (fl b) := by cases b <;> (constructor <;> decide)
theorem in1_2 : in1 2 := by constructor <;> decide
theorem in1_3 : in1 3 := by constructor <;> decide
theorem in1_4 : in1 4 := by constructor <;> decide
theorem in1_5 : in1 5 := by constructor <;> decide
theorem in1_6 : in1 6 := by constructor <;> decide
theorem in1_7 : in1 7 := by constructor <;> decide
theorem in1_8 : in1 8 := by constructor <;> decide
theorem in1_1 : in1 1 := by constructor <;> decide

theorem fB1 (xk xo xr xw xm xu xg xd xq : Int) (xb xy : Bool) (xa : Option Addr) (xn xc : Nat) (xF : Nat → Int) (h : 1 ≤ xn ∧ xn ≤ 60 ∧ in1 xo ∧ in1 xr ∧ in2 xw ∧ ∀ j, j < xn → in1 (xF j)) : formB 1 xo xr xw xm xu xg xd xq xb xy xn xF = chainB 0 0 0 0 false xm xu xg xd xq xy := by
  obtain ⟨h1, h2, h3, h4, h5, h6⟩ := h
  have hu : (List.range xn).all (fun j => decide (in1 (xF j))) = true := by simpa using h6
  have hn : in1 (xn : Int) := ⟨by omega, by omega⟩
  have e : (wrP 1 xo xr xw xm xu xg xd xq xb xy xn xF).all goodP = true := by
    simp only [wrP, if_true, List.all_append, List.all_cons, List.all_nil, List.all_map, Bool.and_true, good1, good2, in1_fl, Function.comp_def, hu, h3, h4, h5, hn, in1_1, decide_true]
  unfold formB
  rw [e, decide_eq_false (by omega : ¬ ((1 : Int) = 1 ∧ (xn < 1 ∨ 60 < xn)))]
  simp [needB, chainB]
theorem fB1_bad (xk xo xr xw xm xu xg xd xq : Int) (xb xy : Bool) (xa : Option Addr) (xn xc : Nat) (xF : Nat → Int) (h : ¬ (1 ≤ xn ∧ xn ≤ 60 ∧ in1 xo ∧ in1 xr ∧ in2 xw ∧ ∀ j, j < xn → in1 (xF j))) : formB 1 xo xr xw xm xu xg xd xq xb xy xn xF = false := by
  cases hF : formB 1 xo xr xw xm xu xg xd xq xb xy xn xF
  · rfl
  · refine absurd ?_ h
    simp only [formB, Bool.and_eq_true] at hF
    obtain ⟨⟨q1, q2⟩, q3⟩ := hF
    have q0 : ¬ (xn < 1 ∨ 60 < xn) := fun hc => by
      rw [decide_eq_true (⟨trivial, hc⟩ : True ∧ (xn < 1 ∨ 60 < xn))] at q1
      cases q1
    simp only [wrP, if_true, List.all_append, List.all_cons, List.all_nil, List.all_map, Bool.and_true, good1, good2, in1_fl, Function.comp_def, Bool.and_eq_true, decide_eq_true_eq, List.all_eq_true, List.mem_range] at q3
    exact ⟨by omega, by omega, q3.1.1.2.1, q3.2.1, q3.2.2.1, q3.1.2⟩
theorem fB2 (xk xo xr xw xm xu xg xd xq : Int) (xb xy : Bool) (xa : Option Addr) (xn xc : Nat) (xF : Nat → Int) (h : in2 xm) : formB 2 xo xr xw xm xu xg xd xq xb xy xn xF = chainB xo xn xr xw xb 0 xu xg xd xq xy := by
  simp [formB, needB, wrP, chainB, good1, good2, good4, in1_fl, in1_1, in1_2, in1_3, in1_4, in1_5, in1_6, in1_7, in1_8, h, Bool.and_assoc]
theorem fB2_bad (xk xo xr xw xm xu xg xd xq : Int) (xb xy : Bool) (xa : Option Addr) (xn xc : Nat) (xF : Nat → Int) (h : ¬ (in2 xm)) : formB 2 xo xr xw xm xu xg xd xq xb xy xn xF = false := by
  cases hF : formB 2 xo xr xw xm xu xg xd xq xb xy xn xF
  · rfl
  · refine absurd ?_ h
    simp only [formB, Bool.and_eq_true] at hF
    have q3 := hF.2
    simp [wrP, good1, good2, good4, in1_fl, in1_1, in1_2, in1_3, in1_4, in1_5, in1_6, in1_7, in1_8] at q3
    first | exact q3 | exact q3.2 | (simp only [in1, in2] at *; omega) | trace_state
theorem fB3 (xk xo xr xw xm xu xg xd xq : Int) (xb xy : Bool) (xa : Option Addr) (xn xc : Nat) (xF : Nat → Int) (h : in2 xm) : formB 3 xo xr xw xm xu xg xd xq xb xy xn xF = chainB xo xn xr xw xb 0 xu xg xd xq xy := by
  simp [formB, needB, wrP, chainB, good1, good2, good4, in1_fl, in1_1, in1_2, in1_3, in1_4, in1_5, in1_6, in1_7, in1_8, h, Bool.and_assoc]
theorem fB3_bad (xk xo xr xw xm xu xg xd xq : Int) (xb xy : Bool) (xa : Option Addr) (xn xc : Nat) (xF : Nat → Int) (h : ¬ (in2 xm)) : formB 3 xo xr xw xm xu xg xd xq xb xy xn xF = false := by
  cases hF : formB 3 xo xr xw xm xu xg xd xq xb xy xn xF
  · rfl
  · refine absurd ?_ h
    simp only [formB, Bool.and_eq_true] at hF
    have q3 := hF.2
    simp [wrP, good1, good2, good4, in1_fl, in1_1, in1_2, in1_3, in1_4, in1_5, in1_6, in1_7, in1_8] at q3
    first | exact q3 | exact q3.2 | (simp only [in1, in2] at *; omega) | trace_state
theorem fB4 (xk xo xr xw xm xu xg xd xq : Int) (xb xy : Bool) (xa : Option Addr) (xn xc : Nat) (xF : Nat → Int) (h : in2 xm) : formB 4 xo xr xw xm xu xg xd xq xb xy xn xF = chainB xo xn xr xw xb 0 xu xg xd xq xy := by
  simp [formB, needB, wrP, chainB, good1, good2, good4, in1_fl, in1_1, in1_2, in1_3, in1_4, in1_5, in1_6, in1_7, in1_8, h, Bool.and_assoc]
theorem fB4_bad (xk xo xr xw xm xu xg xd xq : Int) (xb xy : Bool) (xa : Option Addr) (xn xc : Nat) (xF : Nat → Int) (h : ¬ (in2 xm)) : formB 4 xo xr xw xm xu xg xd xq xb xy xn xF = false := by
  cases hF : formB 4 xo xr xw xm xu xg xd xq xb xy xn xF
  · rfl
  · refine absurd ?_ h
    simp only [formB, Bool.and_eq_true] at hF
    have q3 := hF.2
    simp [wrP, good1, good2, good4, in1_fl, in1_1, in1_2, in1_3, in1_4, in1_5, in1_6, in1_7, in1_8] at q3
    first | exact q3 | exact q3.2 | (simp only [in1, in2] at *; omega) | trace_state
theorem fB5 (xk xo xr xw xm xu xg xd xq : Int) (xb xy : Bool) (xa : Option Addr) (xn xc : Nat) (xF : Nat → Int) (h : in2 xm) : formB 5 xo xr xw xm xu xg xd xq xb xy xn xF = chainB xo xn xr xw xb 0 xu xg xd xq xy := by
  simp [formB, needB, wrP, chainB, good1, good2, good4, in1_fl, in1_1, in1_2, in1_3, in1_4, in1_5, in1_6, in1_7, in1_8, h, Bool.and_assoc]
theorem fB5_bad (xk xo xr xw xm xu xg xd xq : Int) (xb xy : Bool) (xa : Option Addr) (xn xc : Nat) (xF : Nat → Int) (h : ¬ (in2 xm)) : formB 5 xo xr xw xm xu xg xd xq xb xy xn xF = false := by
  cases hF : formB 5 xo xr xw xm xu xg xd xq xb xy xn xF
  · rfl
  · refine absurd ?_ h
    simp only [formB, Bool.and_eq_true] at hF
    have q3 := hF.2
    simp [wrP, good1, good2, good4, in1_fl, in1_1, in1_2, in1_3, in1_4, in1_5, in1_6, in1_7, in1_8] at q3
    first | exact q3 | exact q3.2 | (simp only [in1, in2] at *; omega) | trace_state
theorem fB6 (xk xo xr xw xm xu xg xd xq : Int) (xb xy : Bool) (xa : Option Addr) (xn xc : Nat) (xF : Nat → Int) (h : in2 xm ∧ in1 xu ∧ in1 xg) : formB 6 xo xr xw xm xu xg xd xq xb xy xn xF = chainB xo xn xr xw xb 0 0 0 xd xq xy := by
  simp [formB, needB, wrP, chainB, good1, good2, good4, in1_fl, in1_1, in1_2, in1_3, in1_4, in1_5, in1_6, in1_7, in1_8, h, Bool.and_assoc]
theorem fB6_bad (xk xo xr xw xm xu xg xd xq : Int) (xb xy : Bool) (xa : Option Addr) (xn xc : Nat) (xF : Nat → Int) (h : ¬ (in2 xm ∧ in1 xu ∧ in1 xg)) : formB 6 xo xr xw xm xu xg xd xq xb xy xn xF = false := by
  cases hF : formB 6 xo xr xw xm xu xg xd xq xb xy xn xF
  · rfl
  · refine absurd ?_ h
    simp only [formB, Bool.and_eq_true] at hF
    have q3 := hF.2
    simp [wrP, good1, good2, good4, in1_fl, in1_1, in1_2, in1_3, in1_4, in1_5, in1_6, in1_7, in1_8] at q3
    first | exact q3 | exact q3.2 | (simp only [in1, in2] at *; omega) | trace_state
theorem fB7 (xk xo xr xw xm xu xg xd xq : Int) (xb xy : Bool) (xa : Option Addr) (xn xc : Nat) (xF : Nat → Int) (h : in2 xd) : formB 7 xo xr xw xm xu xg xd xq xb xy xn xF = chainB xo xn xr xw xb xm xu xg 0 xq xy := by
  simp [formB, needB, wrP, chainB, good1, good2, good4, in1_fl, in1_1, in1_2, in1_3, in1_4, in1_5, in1_6, in1_7, in1_8, h, Bool.and_assoc]
theorem fB7_bad (xk xo xr xw xm xu xg xd xq : Int) (xb xy : Bool) (xa : Option Addr) (xn xc : Nat) (xF : Nat → Int) (h : ¬ (in2 xd)) : formB 7 xo xr xw xm xu xg xd xq xb xy xn xF = false := by
  cases hF : formB 7 xo xr xw xm xu xg xd xq xb xy xn xF
  · rfl
  · refine absurd ?_ h
    simp only [formB, Bool.and_eq_true] at hF
    have q3 := hF.2
    simp [wrP, good1, good2, good4, in1_fl, in1_1, in1_2, in1_3, in1_4, in1_5, in1_6, in1_7, in1_8] at q3
    first | exact q3 | exact q3.2 | (simp only [in1, in2] at *; omega) | trace_state
theorem fB8 (xk xo xr xw xm xu xg xd xq : Int) (xb xy : Bool) (xa : Option Addr) (xn xc : Nat) (xF : Nat → Int) (h : 0 ≤ xq ∧ xq ≤ 4294967295) : formB 8 xo xr xw xm xu xg xd xq xb xy xn xF = chainB xo xn xr xw xb xm xu xg xd 0 false := by
  simp [formB, needB, wrP, chainB, good1, good2, good4, in1_fl, in1_1, in1_2, in1_3, in1_4, in1_5, in1_6, in1_7, in1_8, h, Bool.and_assoc]
theorem fB8_bad (xk xo xr xw xm xu xg xd xq : Int) (xb xy : Bool) (xa : Option Addr) (xn xc : Nat) (xF : Nat → Int) (h : ¬ (0 ≤ xq ∧ xq ≤ 4294967295)) : formB 8 xo xr xw xm xu xg xd xq xb xy xn xF = false := by
  cases hF : formB 8 xo xr xw xm xu xg xd xq xb xy xn xF
  · rfl
  · refine absurd ?_ h
    simp only [formB, Bool.and_eq_true] at hF
    have q3 := hF.2
    simp [wrP, good1, good2, good4, in1_fl, in1_1, in1_2, in1_3, in1_4, in1_5, in1_6, in1_7, in1_8] at q3
    first | exact q3 | exact q3.2 | (simp only [in1, in2] at *; omega) | trace_state
theorem fB0 (xk xo xr xw xm xu xg xd xq : Int) (xb xy : Bool) (xa : Option Addr) (xn xc : Nat) (xF : Nat → Int) (h1 : (xk == 1) = false) (h2 : (xk == 2) = false) (h3 : (xk == 3) = false) (h4 : (xk == 4) = false) (h5 : (xk == 5) = false) (h6 : (xk == 6) = false) (h7 : (xk == 7) = false) (h8 : (xk == 8) = false) : formB xk xo xr xw xm xu xg xd xq xb xy xn xF = false := by
  simp only [beq_eq_false_iff_ne, ne_eq] at h1 h2 h3 h4 h5 h6 h7 h8
  have : (wrP xk xo xr xw xm xu xg xd xq xb xy xn xF).all goodP = false := by
    simp [wrP, h1, h2, h3, h4, h5, h6, h7, h8]
    decide
  simp [formB, this]

set_option maxRecDepth 100000 in
set_option maxHeartbeats 16000000 in
theorem refFormed (xk xo xr xw xm xu xg xd xq : Int) (xb xy : Bool) (xa : Option Addr) (xn xc : Nat) (xF : Nat → Int) (w : World) (hx : IntsAt w .i64 xa xn xF) :
    Calls Try.prog 39 #[.agg #[.int .i64 xk, .int .i64 xo, .slice xa xn xc, .int .i64 xr, .int .i64 xw, .bool xb, .int .i64 xm, .int .i64 xu, .int .i64 xg, .int .i64 xd, .int .i64 xq, .bool xy]] w fun e w' => e = .returned (.bool (formB xk xo xr xw xm xu xg xd xq xb xy xn xF)) ∧ Below w.heap.size w w' := by
  have HX : Hid (∀ w', Below w.heap.size w w' → IntsAt w' .i64 xa xn xF) := Lib.hid (fun w' hb => hx.below hb)
  obtain ⟨FB, hFB⟩ : ∃ FB, formB xk xo xr xw xm xu xg xd xq xb xy xn xF = FB := ⟨_, rfl⟩
  rw [hFB]
  replace hFB := Lib.hid hFB
  have hbig := hx.1
  clear hx
  go_enter Try.func39, Try.ntmps39
  go_upto_block 0 with fail
  go_cut [2] from 4 to 145 (fun s2 W => ∃ (zo : Int) (zn : Nat) (zr zw : Int) (zb : Bool) (zm zu zg zd zq : Int) (zy : Bool) (za : Option Addr) (zc : Nat), W.heap[w.heap.size + 1]? = some (.cells #[.int .i64 xk, .int .i64 zo, .slice za zn zc, .int .i64 zr, .int .i64 zw, .bool zb, .int .i64 zm, .int .i64 zu, .int .i64 zg, .int .i64 zd, .int .i64 zq, .bool zy] 53 (0, 0)) ∧ FB = chainB zo zn zr zw zb zm zu zg zd zq zy ∧ Below w.heap.size w W)
  case first =>
    cases h1 : (xk == 1)
    rotate_left
    · obtain rfl : xk = 1 := by simpa using h1
      have nn : ∀ h : ¬ (1 ≤ xn ∧ xn ≤ 60 ∧ in1 xo ∧ in1 xr ∧ in2 xw ∧ ∀ j, j < xn → in1 (xF j)), formB 1 xo xr xw xm xu xg xd xq xb xy xn xF = false := fB1_bad 1 xo xr xw xm xu xg xd xq xb xy xa xn xc xF
      replace nn := Lib.hid nn
      by_cases c0 : (xn : Int) < 1
      · as_aux_lemma =>
          obtain rfl : FB = false := hFB.out.symm.trans (nn.out (fun h => by simp only [in1, in2] at h; omega))
          go_wp2_with fail
          go_ret
          exact ⟨rfl, ((Below.refl _ _).alloc (Nat.le_refl _) _).alloc (by simp) _⟩
      by_cases c1 : (60 : Int) < xn
      · as_aux_lemma =>
          obtain rfl : FB = false := hFB.out.symm.trans (nn.out (fun h => by simp only [in1, in2] at h; omega))
          go_wp2_with fail
          go_ret
          exact ⟨rfl, ((Below.refl _ _).alloc (Nat.le_refl _) _).alloc (by simp) _⟩
      by_cases c2 : xo < 0
      · as_aux_lemma =>
          obtain rfl : FB = false := hFB.out.symm.trans (nn.out (fun h => by simp only [in1, in2] at h; omega))
          go_wp2_with fail
          go_ret
          exact ⟨rfl, ((Below.refl _ _).alloc (Nat.le_refl _) _).alloc (by simp) _⟩
      by_cases c3 : 255 < xo
      · as_aux_lemma =>
          obtain rfl : FB = false := hFB.out.symm.trans (nn.out (fun h => by simp only [in1, in2] at h; omega))
          go_wp2_with fail
          go_ret
          exact ⟨rfl, ((Below.refl _ _).alloc (Nat.le_refl _) _).alloc (by simp) _⟩
      by_cases c4 : xr < 0
      · as_aux_lemma =>
          obtain rfl : FB = false := hFB.out.symm.trans (nn.out (fun h => by simp only [in1, in2] at h; omega))
          go_wp2_with fail
          go_ret
          exact ⟨rfl, ((Below.refl _ _).alloc (Nat.le_refl _) _).alloc (by simp) _⟩
      by_cases c5 : 255 < xr
      · as_aux_lemma =>
          obtain rfl : FB = false := hFB.out.symm.trans (nn.out (fun h => by simp only [in1, in2] at h; omega))
          go_wp2_with fail
          go_ret
          exact ⟨rfl, ((Below.refl _ _).alloc (Nat.le_refl _) _).alloc (by simp) _⟩
      by_cases c6 : xw < 0
      · as_aux_lemma =>
          obtain rfl : FB = false := hFB.out.symm.trans (nn.out (fun h => by simp only [in1, in2] at h; omega))
          go_wp2_with fail
          go_ret
          exact ⟨rfl, ((Below.refl _ _).alloc (Nat.le_refl _) _).alloc (by simp) _⟩
      by_cases c7 : 65535 < xw
      · as_aux_lemma =>
          obtain rfl : FB = false := hFB.out.symm.trans (nn.out (fun h => by simp only [in1, in2] at h; omega))
          go_wp2_with fail
          go_ret
          exact ⟨rfl, ((Below.refl _ _).alloc (Nat.le_refl _) _).alloc (by simp) _⟩
      as_aux_lemma =>
        have a1 : Hid (1 ≤ xn ∧ xn ≤ 60 ∧ in1 xo ∧ in1 xr ∧ in2 xw) := Lib.hid (by simp only [in1, in2]; omega)
        go_wp2_with fail
        go_loop [53] (fun i => ∃ j : Nat, j ≤ xn ∧ i = .int .i64 j ∧ Hid (∀ i, i < j → in1 (xF i))) (fun i => xn - (intOf i).toNat)
        case atStart => exact ⟨0, Nat.zero_le _, rfl, Lib.hid (fun i hi => absurd hi (by omega))⟩
        case round =>
          obtain ⟨j, hj, rfl, hR⟩ := hrel
          by_cases hlt : j < xn
          · have hlt' : (j : Int) < xn := by omega
            obtain ⟨b, off, rfl, hbb, hc⟩ := (HX.out _ (Below.refl _ _)).2 (by omega)
            have cj := hc j hlt
            have hn0 : ¬ b = w.heap.size := by omega
            have hn1 : ¬ b = w.heap.size + 1 := by omega
            clear hc
            have HB : Hid (¬ in1 (xF j) → formB 1 xo xr xw xm xu xg xd xq xb xy xn xF = false) := Lib.hid (fun hn => nn.out (fun h => hn (h.2.2.2.2.2 j hlt)))
            have HS : Hid (in1 (xF j) → ∀ i, i < j + 1 → in1 (xF i)) := Lib.hid (fun hn i hi => by
              by_cases e : i = j
              · rw [e]; exact hn
              · exact hR.out i (by omega))
            generalize xF j = xj at *
            by_cases d1 : xj < 0
            · as_aux_lemma =>
                obtain rfl : FB = false := hFB.out.symm.trans (HB.out (fun h => by simp only [in1] at h; omega))
                go_wp2_with fail
                go_ret
                exact ⟨rfl, ((Below.refl _ _).alloc (Nat.le_refl _) _).alloc (by simp) _⟩
            by_cases d2 : 255 < xj
            · as_aux_lemma =>
                obtain rfl : FB = false := hFB.out.symm.trans (HB.out (fun h => by simp only [in1] at h; omega))
                go_wp2_with fail
                go_ret
                exact ⟨rfl, ((Below.refl _ _).alloc (Nat.le_refl _) _).alloc (by simp) _⟩
            · as_aux_lemma =>
                replace HS := Lib.hid (HS.out (by simp only [in1]; omega))
                go_wp2_with fail
                go_round
                case rel => exact ⟨j + 1, by omega, by go_num, HS⟩
                case measure => simp [intOf]; omega
          · obtain rfl : j = xn := by omega
            have hlt' : ¬ (j : Int) < j := by omega
            go_wp2_with fail
            go_meet
            exact ⟨0, 0, 0, 0, false, xm, xu, xg, xd, xq, xy, none, 0, alloc_at (by simp), hFB.out.symm.trans (fB1 1 xo xr xw xm xu xg xd xq xb xy xa j xc xF ⟨a1.out.1, a1.out.2.1, a1.out.2.2.1, a1.out.2.2.2.1, a1.out.2.2.2.2, hR.out⟩), ((Below.refl _ _).alloc (Nat.le_refl _) _).alloc (by simp) _⟩
    cases h2 : (xk == 2)
    rotate_left
    · obtain rfl : xk = 2 := by simpa using h2
      by_cases c0 : xm < 0
      · as_aux_lemma =>
          obtain rfl : FB = false := hFB.out.symm.trans (fB2_bad 2 xo xr xw xm xu xg xd xq xb xy xa xn xc xF (fun h => by simp only [in2] at h; omega))
          go_wp2_with fail
          go_ret
          exact ⟨rfl, ((Below.refl _ _).alloc (Nat.le_refl _) _).alloc (by simp) _⟩
      by_cases c1 : 65535 < xm
      · as_aux_lemma =>
          obtain rfl : FB = false := hFB.out.symm.trans (fB2_bad 2 xo xr xw xm xu xg xd xq xb xy xa xn xc xF (fun h => by simp only [in2] at h; omega))
          go_wp2_with fail
          go_ret
          exact ⟨rfl, ((Below.refl _ _).alloc (Nat.le_refl _) _).alloc (by simp) _⟩
      as_aux_lemma =>
        go_wp2_with fail
        go_meet
        exact ⟨xo, xn, xr, xw, xb, 0, xu, xg, xd, xq, xy, xa, xc, alloc_at (by simp), hFB.out.symm.trans (fB2 2 xo xr xw xm xu xg xd xq xb xy xa xn xc xF (by simp only [in2]; omega)), ((Below.refl _ _).alloc (Nat.le_refl _) _).alloc (by simp) _⟩
    cases h3 : (xk == 3)
    rotate_left
    · obtain rfl : xk = 3 := by simpa using h3
      by_cases c0 : xm < 0
      · as_aux_lemma =>
          obtain rfl : FB = false := hFB.out.symm.trans (fB3_bad 3 xo xr xw xm xu xg xd xq xb xy xa xn xc xF (fun h => by simp only [in2] at h; omega))
          go_wp2_with fail
          go_ret
          exact ⟨rfl, ((Below.refl _ _).alloc (Nat.le_refl _) _).alloc (by simp) _⟩
      by_cases c1 : 65535 < xm
      · as_aux_lemma =>
          obtain rfl : FB = false := hFB.out.symm.trans (fB3_bad 3 xo xr xw xm xu xg xd xq xb xy xa xn xc xF (fun h => by simp only [in2] at h; omega))
          go_wp2_with fail
          go_ret
          exact ⟨rfl, ((Below.refl _ _).alloc (Nat.le_refl _) _).alloc (by simp) _⟩
      as_aux_lemma =>
        go_wp2_with fail
        go_meet
        exact ⟨xo, xn, xr, xw, xb, 0, xu, xg, xd, xq, xy, xa, xc, alloc_at (by simp), hFB.out.symm.trans (fB3 3 xo xr xw xm xu xg xd xq xb xy xa xn xc xF (by simp only [in2]; omega)), ((Below.refl _ _).alloc (Nat.le_refl _) _).alloc (by simp) _⟩
    cases h4 : (xk == 4)
    rotate_left
    · obtain rfl : xk = 4 := by simpa using h4
      by_cases c0 : xm < 0
      · as_aux_lemma =>
          obtain rfl : FB = false := hFB.out.symm.trans (fB4_bad 4 xo xr xw xm xu xg xd xq xb xy xa xn xc xF (fun h => by simp only [in2] at h; omega))
          go_wp2_with fail
          go_ret
          exact ⟨rfl, ((Below.refl _ _).alloc (Nat.le_refl _) _).alloc (by simp) _⟩
      by_cases c1 : 65535 < xm
      · as_aux_lemma =>
          obtain rfl : FB = false := hFB.out.symm.trans (fB4_bad 4 xo xr xw xm xu xg xd xq xb xy xa xn xc xF (fun h => by simp only [in2] at h; omega))
          go_wp2_with fail
          go_ret
          exact ⟨rfl, ((Below.refl _ _).alloc (Nat.le_refl _) _).alloc (by simp) _⟩
      as_aux_lemma =>
        go_wp2_with fail
        go_meet
        exact ⟨xo, xn, xr, xw, xb, 0, xu, xg, xd, xq, xy, xa, xc, alloc_at (by simp), hFB.out.symm.trans (fB4 4 xo xr xw xm xu xg xd xq xb xy xa xn xc xF (by simp only [in2]; omega)), ((Below.refl _ _).alloc (Nat.le_refl _) _).alloc (by simp) _⟩
    cases h5 : (xk == 5)
    rotate_left
    · obtain rfl : xk = 5 := by simpa using h5
      by_cases c0 : xm < 0
      · as_aux_lemma =>
          obtain rfl : FB = false := hFB.out.symm.trans (fB5_bad 5 xo xr xw xm xu xg xd xq xb xy xa xn xc xF (fun h => by simp only [in2] at h; omega))
          go_wp2_with fail
          go_ret
          exact ⟨rfl, ((Below.refl _ _).alloc (Nat.le_refl _) _).alloc (by simp) _⟩
      by_cases c1 : 65535 < xm
      · as_aux_lemma =>
          obtain rfl : FB = false := hFB.out.symm.trans (fB5_bad 5 xo xr xw xm xu xg xd xq xb xy xa xn xc xF (fun h => by simp only [in2] at h; omega))
          go_wp2_with fail
          go_ret
          exact ⟨rfl, ((Below.refl _ _).alloc (Nat.le_refl _) _).alloc (by simp) _⟩
      as_aux_lemma =>
        go_wp2_with fail
        go_meet
        exact ⟨xo, xn, xr, xw, xb, 0, xu, xg, xd, xq, xy, xa, xc, alloc_at (by simp), hFB.out.symm.trans (fB5 5 xo xr xw xm xu xg xd xq xb xy xa xn xc xF (by simp only [in2]; omega)), ((Below.refl _ _).alloc (Nat.le_refl _) _).alloc (by simp) _⟩
    cases h6 : (xk == 6)
    rotate_left
    · obtain rfl : xk = 6 := by simpa using h6
      by_cases c0 : xm < 0
      · as_aux_lemma =>
          obtain rfl : FB = false := hFB.out.symm.trans (fB6_bad 6 xo xr xw xm xu xg xd xq xb xy xa xn xc xF (fun h => by simp only [in1, in2] at h; omega))
          go_wp2_with fail
          go_ret
          exact ⟨rfl, ((Below.refl _ _).alloc (Nat.le_refl _) _).alloc (by simp) _⟩
      by_cases c1 : 65535 < xm
      · as_aux_lemma =>
          obtain rfl : FB = false := hFB.out.symm.trans (fB6_bad 6 xo xr xw xm xu xg xd xq xb xy xa xn xc xF (fun h => by simp only [in1, in2] at h; omega))
          go_wp2_with fail
          go_ret
          exact ⟨rfl, ((Below.refl _ _).alloc (Nat.le_refl _) _).alloc (by simp) _⟩
      by_cases c2 : xu < 0
      · as_aux_lemma =>
          obtain rfl : FB = false := hFB.out.symm.trans (fB6_bad 6 xo xr xw xm xu xg xd xq xb xy xa xn xc xF (fun h => by simp only [in1, in2] at h; omega))
          go_wp2_with fail
          go_ret
          exact ⟨rfl, ((Below.refl _ _).alloc (Nat.le_refl _) _).alloc (by simp) _⟩
      by_cases c3 : 255 < xu
      · as_aux_lemma =>
          obtain rfl : FB = false := hFB.out.symm.trans (fB6_bad 6 xo xr xw xm xu xg xd xq xb xy xa xn xc xF (fun h => by simp only [in1, in2] at h; omega))
          go_wp2_with fail
          go_ret
          exact ⟨rfl, ((Below.refl _ _).alloc (Nat.le_refl _) _).alloc (by simp) _⟩
      by_cases c4 : xg < 0
      · as_aux_lemma =>
          obtain rfl : FB = false := hFB.out.symm.trans (fB6_bad 6 xo xr xw xm xu xg xd xq xb xy xa xn xc xF (fun h => by simp only [in1, in2] at h; omega))
          go_wp2_with fail
          go_ret
          exact ⟨rfl, ((Below.refl _ _).alloc (Nat.le_refl _) _).alloc (by simp) _⟩
      by_cases c5 : 255 < xg
      · as_aux_lemma =>
          obtain rfl : FB = false := hFB.out.symm.trans (fB6_bad 6 xo xr xw xm xu xg xd xq xb xy xa xn xc xF (fun h => by simp only [in1, in2] at h; omega))
          go_wp2_with fail
          go_ret
          exact ⟨rfl, ((Below.refl _ _).alloc (Nat.le_refl _) _).alloc (by simp) _⟩
      as_aux_lemma =>
        go_wp2_with fail
        go_meet
        exact ⟨xo, xn, xr, xw, xb, 0, 0, 0, xd, xq, xy, xa, xc, alloc_at (by simp), hFB.out.symm.trans (fB6 6 xo xr xw xm xu xg xd xq xb xy xa xn xc xF (by simp only [in1, in2]; omega)), ((Below.refl _ _).alloc (Nat.le_refl _) _).alloc (by simp) _⟩
    cases h7 : (xk == 7)
    rotate_left
    · obtain rfl : xk = 7 := by simpa using h7
      by_cases c0 : xd < 0
      · as_aux_lemma =>
          obtain rfl : FB = false := hFB.out.symm.trans (fB7_bad 7 xo xr xw xm xu xg xd xq xb xy xa xn xc xF (fun h => by simp only [in2] at h; omega))
          go_wp2_with fail
          go_ret
          exact ⟨rfl, ((Below.refl _ _).alloc (Nat.le_refl _) _).alloc (by simp) _⟩
      by_cases c1 : 65535 < xd
      · as_aux_lemma =>
          obtain rfl : FB = false := hFB.out.symm.trans (fB7_bad 7 xo xr xw xm xu xg xd xq xb xy xa xn xc xF (fun h => by simp only [in2] at h; omega))
          go_wp2_with fail
          go_ret
          exact ⟨rfl, ((Below.refl _ _).alloc (Nat.le_refl _) _).alloc (by simp) _⟩
      as_aux_lemma =>
        go_wp2_with fail
        go_meet
        exact ⟨xo, xn, xr, xw, xb, xm, xu, xg, 0, xq, xy, xa, xc, alloc_at (by simp), hFB.out.symm.trans (fB7 7 xo xr xw xm xu xg xd xq xb xy xa xn xc xF (by simp only [in2]; omega)), ((Below.refl _ _).alloc (Nat.le_refl _) _).alloc (by simp) _⟩
    cases h8 : (xk == 8)
    rotate_left
    · obtain rfl : xk = 8 := by simpa using h8
      by_cases c0 : xq < 0
      · as_aux_lemma =>
          obtain rfl : FB = false := hFB.out.symm.trans (fB8_bad 8 xo xr xw xm xu xg xd xq xb xy xa xn xc xF (fun h => by omega))
          go_wp2_with fail
          go_ret
          exact ⟨rfl, ((Below.refl _ _).alloc (Nat.le_refl _) _).alloc (by simp) _⟩
      by_cases c1 : 4294967295 < xq
      · as_aux_lemma =>
          obtain rfl : FB = false := hFB.out.symm.trans (fB8_bad 8 xo xr xw xm xu xg xd xq xb xy xa xn xc xF (fun h => by omega))
          go_wp2_with fail
          go_ret
          exact ⟨rfl, ((Below.refl _ _).alloc (Nat.le_refl _) _).alloc (by simp) _⟩
      as_aux_lemma =>
        go_wp2_with fail
        go_meet
        exact ⟨xo, xn, xr, xw, xb, xm, xu, xg, xd, 0, false, xa, xc, alloc_at (by simp), hFB.out.symm.trans (fB8 8 xo xr xw xm xu xg xd xq xb xy xa xn xc xF (by omega)), ((Below.refl _ _).alloc (Nat.le_refl _) _).alloc (by simp) _⟩
    as_aux_lemma =>
      obtain rfl : FB = false := hFB.out.symm.trans (fB0 xk xo xr xw xm xu xg xd xq xb xy xa xn xc xF h1 h2 h3 h4 h5 h6 h7 h8)
      go_wp2_with fail
      go_ret
      exact ⟨rfl, ((Below.refl _ _).alloc (Nat.le_refl _) _).alloc (by simp) _⟩
  case rest =>
    obtain ⟨zo, zn, zr, zw, zb, zm, zu, zg, zd, zq, zy, za, zc, hz, hf, hbz⟩ := hcut
    obtain ⟨k0, k1, k2, k3, k4, k5, k6, k7, k8, k9, k10, k11⟩ := cbox_cells xk zo zr zw zm zu zg zd zq zb zy za zn zc xF hz
    replace hf := Lib.hid hf
    replace hbz := Lib.hid hbz
    clear hz HX hFB k0
    cases ho : (zo == 0)
    · obtain rfl : FB = false := by rw [hf.out]; simp [chainB, *]
      as_aux_lemma =>
        go_wp2_with fail
        go_ret
        exact ⟨by simp, hbz.out⟩
    obtain rfl : zo = 0 := by simpa using ho
    clear ho
    cases hF : (zn == 0)
    · obtain rfl : FB = false := by rw [hf.out]; simp [chainB, *]
      have hF' : ((zn : Int) == 0) = false := by simp at hF ⊢; omega
      as_aux_lemma =>
        go_wp2_with fail
        go_ret
        exact ⟨by simp, hbz.out⟩
    obtain rfl : zn = 0 := by simpa using hF
    clear hF
    cases hr : (zr == 0)
    · obtain rfl : FB = false := by rw [hf.out]; simp [chainB, *]
      as_aux_lemma =>
        go_wp2_with fail
        go_ret
        exact ⟨by simp, hbz.out⟩
    obtain rfl : zr = 0 := by simpa using hr
    clear hr
    cases hw : (zw == 0)
    · obtain rfl : FB = false := by rw [hf.out]; simp [chainB, *]
      as_aux_lemma =>
        go_wp2_with fail
        go_ret
        exact ⟨by simp, hbz.out⟩
    obtain rfl : zw = 0 := by simpa using hw
    clear hw
    cases zb
    rotate_left
    · obtain rfl : FB = false := by rw [hf.out]; simp [chainB, *]
      as_aux_lemma =>
        go_wp2_with fail
        go_ret
        exact ⟨by simp, hbz.out⟩
    cases hm : (zm == 0)
    · obtain rfl : FB = false := by rw [hf.out]; simp [chainB, *]
      as_aux_lemma =>
        go_wp2_with fail
        go_ret
        exact ⟨by simp, hbz.out⟩
    obtain rfl : zm = 0 := by simpa using hm
    clear hm
    cases hu : (zu == 0)
    · obtain rfl : FB = false := by rw [hf.out]; simp [chainB, *]
      as_aux_lemma =>
        go_wp2_with fail
        go_ret
        exact ⟨by simp, hbz.out⟩
    obtain rfl : zu = 0 := by simpa using hu
    clear hu
    cases hg : (zg == 0)
    · obtain rfl : FB = false := by rw [hf.out]; simp [chainB, *]
      as_aux_lemma =>
        go_wp2_with fail
        go_ret
        exact ⟨by simp, hbz.out⟩
    obtain rfl : zg = 0 := by simpa using hg
    clear hg
    cases hd : (zd == 0)
    · obtain rfl : FB = false := by rw [hf.out]; simp [chainB, *]
      as_aux_lemma =>
        go_wp2_with fail
        go_ret
        exact ⟨by simp, hbz.out⟩
    obtain rfl : zd = 0 := by simpa using hd
    clear hd
    cases hq : (zq == 0)
    · obtain rfl : FB = false := by rw [hf.out]; simp [chainB, *]
      as_aux_lemma =>
        go_wp2_with fail
        go_ret
        exact ⟨by simp, hbz.out⟩
    obtain rfl : zq = 0 := by simpa using hq
    clear hq
    cases zy
    rotate_left
    · obtain rfl : FB = false := by rw [hf.out]; simp [chainB, *]
      as_aux_lemma =>
        go_wp2_with fail
        go_ret
        exact ⟨by simp, hbz.out⟩
    obtain rfl : FB = true := by rw [hf.out]; rfl
    as_aux_lemma =>
      go_wp2_with fail
      go_ret
      exact ⟨by simp, hbz.out⟩

end Go.Proofs.Ytnkgbigjpihfeaa.Kd
