/- recoupref05.RightPolicy, walked: it tells the same policies; every policy. -/
import Derived.Test.YteeiiahmhmbepaaRul
import Derived.LoopTactic
import Derived.LoopN
set_option linter.unusedVariables false
namespace Go.Proofs.Yteeiiahmhmbepaa.Led
open Go.RowKit

def okB (f s t : Int) : Bool := ptB f && grB s t

set_option maxHeartbeats 1000000 in
theorem refpol_any (wd f0 f1 f2 f3 s0 t0 s1 t1 s2 t2 s3 t3 : Int) (fi ex cr : Bool) (w : World) :
    Calls Try.prog 33 #[.agg #[.int .i64 wd, .bool fi, .bool ex, .bool cr, .int .i64 f0, .int .i64 f1, .int .i64 f2, .int .i64 f3, .int .i64 s0, .int .i64 t0, .int .i64 s1, .int .i64 t1, .int .i64 s2, .int .i64 t2, .int .i64 s3, .int .i64 t3]] w
      fun e w' => e = .returned (.bool (polB wd f0 f1 f2 f3 s0 t0 s1 t1 s2 t2 s3 t3)) ∧ Below w.heap.size w w' := by
  obtain ⟨F, hF⟩ : ∃ F : Nat → Int, F = fun j => [f0, f1, f2, f3].getD j 0 := ⟨_, rfl⟩
  obtain ⟨S, hS⟩ : ∃ F : Nat → Int, F = fun j => [s0, s1, s2, s3].getD j 0 := ⟨_, rfl⟩
  obtain ⟨T, hT⟩ : ∃ F : Nat → Int, F = fun j => [t0, t1, t2, t3].getD j 0 := ⟨_, rfl⟩
  have hpol : Hid (polB wd f0 f1 f2 f3 s0 t0 s1 t1 s2 t2 s3 t3 = ((okB (F 0) (S 0) (T 0) && okB (F 1) (S 1) (T 1) && okB (F 2) (S 2) (T 2) && okB (F 3) (S 3) (T 3)) && winB wd)) := Lib.hid (by
    subst hF hS hT
    simp only [List.getD_cons_zero, List.getD_cons_succ, polB, fB, gB, okB]
    cases ptB f0 <;> cases ptB f1 <;> cases ptB f2 <;> cases ptB f3 <;> cases grB s0 t0 <;> cases grB s1 t1 <;> cases grB s2 t2 <;> cases grB s3 t3 <;> rfl)
  have hc : ∀ (W : World), Hid (∀ k, k < 4 → (W.alloc (.cells #[.int .i64 wd, .bool fi, .bool ex, .bool cr, .int .i64 f0, .int .i64 f1, .int .i64 f2, .int .i64 f3, .int .i64 s0, .int .i64 t0, .int .i64 s1, .int .i64 t1, .int .i64 s2, .int .i64 t2, .int .i64 s3, .int .i64 t3] 42)).cell? ⟨W.heap.size, 4 + k, none⟩ = some (.int .i64 (F k)) ∧
      (W.alloc (.cells #[.int .i64 wd, .bool fi, .bool ex, .bool cr, .int .i64 f0, .int .i64 f1, .int .i64 f2, .int .i64 f3, .int .i64 s0, .int .i64 t0, .int .i64 s1, .int .i64 t1, .int .i64 s2, .int .i64 t2, .int .i64 s3, .int .i64 t3] 42)).cell? ⟨W.heap.size, 8 + k * 2, none⟩ = some (.int .i64 (S k)) ∧
      (W.alloc (.cells #[.int .i64 wd, .bool fi, .bool ex, .bool cr, .int .i64 f0, .int .i64 f1, .int .i64 f2, .int .i64 f3, .int .i64 s0, .int .i64 t0, .int .i64 s1, .int .i64 t1, .int .i64 s2, .int .i64 t2, .int .i64 s3, .int .i64 t3] 42)).cell? ⟨W.heap.size, 8 + k * 2 + 1, none⟩ = some (.int .i64 (T k))) := fun W => Lib.hid (by
    intro k hk
    subst hF hS hT
    have hk' : k = 0 ∨ k = 1 ∨ k = 2 ∨ k = 3 := by omega
    rcases hk' with rfl | rfl | rfl | rfl <;> simp)
  clear hF hS hT
  generalize polB wd f0 f1 f2 f3 s0 t0 s1 t1 s2 t2 s3 t3 = V at *
  go_enter Try.func33, Try.ntmps33
  go_wp2
  have hcw := (hc w).out
  clear hc
  have c0 : (w.alloc (.cells #[.int .i64 wd, .bool fi, .bool ex, .bool cr, .int .i64 f0, .int .i64 f1, .int .i64 f2, .int .i64 f3, .int .i64 s0, .int .i64 t0, .int .i64 s1, .int .i64 t1, .int .i64 s2, .int .i64 t2, .int .i64 s3, .int .i64 t3] 42)).cell? ⟨w.heap.size, 0, none⟩ = some (.int .i64 wd) := by simp
  have hb : Below w.heap.size w (w.alloc (.cells #[.int .i64 wd, .bool fi, .bool ex, .bool cr, .int .i64 f0, .int .i64 f1, .int .i64 f2, .int .i64 f3, .int .i64 s0, .int .i64 t0, .int .i64 s1, .int .i64 t1, .int .i64 s2, .int .i64 t2, .int .i64 s3, .int .i64 t3] 42)) := (Below.refl _ _).alloc (Nat.le_refl _) _
  have hz : w.heap.size < (w.alloc (.cells #[.int .i64 wd, .bool fi, .bool ex, .bool cr, .int .i64 f0, .int .i64 f1, .int .i64 f2, .int .i64 f3, .int .i64 s0, .int .i64 t0, .int .i64 s1, .int .i64 t1, .int .i64 s2, .int .i64 t2, .int .i64 s3, .int .i64 t3] 42)).heap.size := by simp
  generalize w.alloc (.cells #[.int .i64 wd, .bool fi, .bool ex, .bool cr, .int .i64 f0, .int .i64 f1, .int .i64 f2, .int .i64 f3, .int .i64 s0, .int .i64 t0, .int .i64 s1, .int .i64 t1, .int .i64 s2, .int .i64 t2, .int .i64 s3, .int .i64 t3] 42) = W1 at *
  have hcW := Lib.hid hcw
  clear hcw
  go_loopw [5] (fun i wr => ∃ k : Nat, k ≤ 4 ∧ i = .int .i64 k ∧ Hid (∀ j, j < k → okB (F j) (S j) (T j) = true) ∧ Below W1.heap.size W1 wr) (fun i _ => 4 - (intOf i).toNat)
  case atStart => exact ⟨0, by omega, rfl, Lib.hid (fun j hj => absurd hj (by omega)), Below.refl _ _⟩
  case round =>
    obtain ⟨k, hk, rfl, hR, hbr⟩ := hrel
    by_cases hlt : k < 4
    · obtain ⟨d1, d2, d3⟩ := hcW.out k hlt
      have e1 : wr.cell? ⟨w.heap.size, 4 + k, none⟩ = some (.int .i64 (F k)) := (hbr.cell (p := ⟨w.heap.size, 4 + k, none⟩) hz).trans d1
      have e2 : wr.cell? ⟨w.heap.size, 8 + k * 2, none⟩ = some (.int .i64 (S k)) := (hbr.cell (p := ⟨w.heap.size, 8 + k * 2, none⟩) hz).trans d2
      have e3 : wr.cell? ⟨w.heap.size, 8 + k * 2 + 1, none⟩ = some (.int .i64 (T k)) := (hbr.cell (p := ⟨w.heap.size, 8 + k * 2 + 1, none⟩) hz).trans d3
      clear d1 d2 d3
      have hbs := hbr.size
      have hzr : w.heap.size < wr.heap.size := by omega
      have hRk := hR.out
      have hOK : Hid (okB (F k) (S k) (T k) = true → ∀ j, j < k + 1 → okB (F j) (S j) (T j) = true) := Lib.hid (fun h j hj => by rcases (show j < k ∨ j = k by omega) with hj | rfl; exact hRk j hj; exact h)
      have hNO : Hid (okB (F k) (S k) (T k) = false → V = false) := Lib.hid (fun h => by
        rw [hpol.out]
        have hk' : k = 0 ∨ k = 1 ∨ k = 2 ∨ k = 3 := by omega
        rcases hk' with rfl | rfl | rfl | rfl <;> simp [h])
      clear hRk hR hcW hpol
      generalize F k = f at *
      generalize S k = s at *
      generalize T k = t at *
      cases hf : ptB f
      · have hV := hNO.out (by simp [okB, hf])
        clear hNO hOK
        go_wp2_with (go_at_call 46; refine (points46 _ _).mono ?_; rintro e w' ⟨rfl, rfl⟩)
        go_ret
        exact ⟨by simp [hV], (hb.trans (below_le hbr (by omega))).alloc (by omega) _⟩
      · cases hs : ptB s
        · have hV := hNO.out (by simp [okB, grB, hs])
          clear hNO hOK
          go_wp2_with (go_at_call 46; refine (points46 _ _).mono ?_; rintro e w' ⟨rfl, rfl⟩)
          go_ret
          exact ⟨by simp [hV], (hb.trans (below_le hbr (by omega))).alloc (by omega) _⟩
        · by_cases h0 : t = 0
          · subst h0
            by_cases hs0 : s = 0
            · subst hs0
              have hO := hOK.out (by simp [okB, grB, hs, hf])
              have HO := Lib.hid hO
              clear hNO hOK hO
              go_wp2_with (go_at_call 46; refine (points46 _ _).mono ?_; rintro e w' ⟨rfl, rfl⟩)
              go_roundw
              case rel => exact ⟨k + 1, by omega, by go_num, HO, hbr.alloc (by omega) _⟩
              case measure => simp [intOf]; omega
            · have hs1 : (s == 0) = false := by simp [hs0]
              have hV := hNO.out (by simp [okB, grB, hs0])
              clear hNO hOK
              go_wp2_with (go_at_call 46; refine (points46 _ _).mono ?_; rintro e w' ⟨rfl, rfl⟩)
              go_ret
              exact ⟨by simp [hV], (hb.trans (below_le hbr (by omega))).alloc (by omega) _⟩
          · have h0' : (t == 0) = false := by simp [h0]
            by_cases h3 : t = 3 ∨ t = 4 ∨ t = 5
            · have hO := hOK.out (by simp [okB, grB, hs, hf]; omega)
              have HO := Lib.hid hO
              clear hNO hOK hO
              rcases h3 with rfl | rfl | rfl
              all_goals
                go_wp2_with (go_at_call 46; refine (points46 _ _).mono ?_; rintro e w' ⟨rfl, rfl⟩)
                go_roundw
                case rel => exact ⟨k + 1, by omega, by go_num, HO, hbr.alloc (by omega) _⟩
                case measure => simp [intOf]; omega
            · have hV := hNO.out (by simp [okB, grB, hs, hf, h0]; omega)
              have k3 : (t == 3) = false := by simp; omega
              have k4 : (t == 4) = false := by simp; omega
              have k5 : (t == 5) = false := by simp; omega
              have n0 : (t != 0) = true := by simp; omega
              have n3 : (t != 3) = true := by simp; omega
              have n4 : (t != 4) = true := by simp; omega
              have n5 : (t != 5) = true := by simp; omega
              clear hNO hOK h3
              go_wp2_with (go_at_call 46; refine (points46 _ _).mono ?_; rintro e w' ⟨rfl, rfl⟩)
              go_ret
              exact ⟨by simp [hV], (hb.trans (below_le hbr (by omega))).alloc (by omega) _⟩
    · obtain rfl : k = 4 := by omega
      have hV : V = winB wd := by
        rw [hpol.out, hR.out 0 (by omega), hR.out 1 (by omega), hR.out 2 (by omega), hR.out 3 (by omega)]
        rfl
      have HV := Lib.hid hV
      have c1 : wr.cell? ⟨w.heap.size, 0, none⟩ = some (.int .i64 wd) := (hbr.cell (p := ⟨w.heap.size, 0, none⟩) hz).trans c0
      clear hV hpol hR hcW
      by_cases w0 : 0 ≤ wd
      · by_cases w1 : wd ≤ 1000
        all_goals
          go_wp2_with fail
          go_ret
          exact ⟨by rw [HV.out]; simp [winB, w0, w1], hb.trans (below_le hbr (by omega))⟩
      · go_wp2_with fail
        go_ret
        exact ⟨by rw [HV.out]; simp [winB]; omega, hb.trans (below_le hbr (by omega))⟩

end Go.Proofs.Yteeiiahmhmbepaa.Led
