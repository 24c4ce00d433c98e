/- Any answer is encoded, and decoded as the same: the walk of CommandAnswers. -/
import Derived.Test.YtnkgbigjpihfeaaCd
import Derived.BigQuiet
import Derived.IntWalk
set_option linter.unusedVariables false
set_option linter.unusedSimpArgs false
namespace Go.Proofs.Ytnkgbigjpihfeaa.Kd
open Go.RowKit Go.Proofs.Ytnkgbigjpihfeaa.Lib

theorem ans_same {r v : Int} (h0 : 0 ≤ r) (h1 : r ≤ 255) (hv0 : -9223372036854775808 ≤ v) (hv1 : v < 9223372036854775808) {L : List Int} (hL : L = [] ++ leB r 1 ++ leB (v % 18446744073709551616) 8) :
    r = (rdN L false 1).1 ∧ v = wrap64 (rdN (rdN L false 1).2.1 (rdN L false 1).2.2 8).1 ∧ (!(rdN (rdN L false 1).2.1 (rdN L false 1).2.2 8).2.2 && decide ((rdN (rdN L false 1).2.1 (rdN L false 1).2.2 8).2.1 = [])) = true := by
  have e1 : rdN L false 1 = (r, leB (v % 18446744073709551616) 8, false) := by
    rw [hL, List.nil_append]
    exact rdN_back h0 (by rw [p1]; omega)
  have e2 : rdN (leB (v % 18446744073709551616) 8) false 8 = (v % 18446744073709551616, [], false) := by
    have := rdN_back (x := v % 18446744073709551616) (k := 8) (R := []) (by omega) (by rw [p8]; omega)
    rwa [List.append_nil] at this
  rw [e1]
  simp only
  rw [e2]
  simp [wrap64_back hv0 hv1]

set_option maxRecDepth 100000 in
set_option maxHeartbeats 6400000 in
theorem commandAnswers_walk (r v : Int) (hv0 : -9223372036854775808 ≤ v) (hv1 : v < 9223372036854775808) (a : Option Addr) (n c : Nat) (F : Nat → Int) (W : World) (h : IntsAt W .u8 a n F) (ha : a = none → n = 0) (hnc : n ≤ c) (hF : ∀ j, j < n → 0 ≤ F j ∧ F j < 256) :
    Calls Try.prog 9 #[.agg #[.int .i64 r, .int .i64 v], .slice a n c] W fun e w' => e = .returned (.bool true) ∧ Below W.heap.size W w' := by
  have H36 : Hid (∀ w', Calls Try.prog 36 #[] w' fun e w'' => e = .returned (.bool true) ∧ Below w'.heap.size w' w'') := Lib.hid awake15
  have H := Lib.hid h
  replace hF := Lib.hid hF
  replace ha := Lib.hid ha
  have hbig := h.1
  clear h
  have hx0 : (W.alloc (.cells #[.int .i64 r, .int .i64 v] 63)).heap[W.heap.size]? = some (.cells #[.int .i64 r, .int .i64 v] 63 (0, 0)) := heap_alloc_new _ _
  have hb0 : Below W.heap.size W (W.alloc (.cells #[.int .i64 r, .int .i64 v] 63)) := (Below.refl _ _).alloc (Nat.le_refl _) _
  have hs0 : (W.alloc (.cells #[.int .i64 r, .int .i64 v] 63)).heap.size = W.heap.size + 1 := by simp
  replace hx0 := Lib.hid hx0
  replace hb0 := Lib.hid hb0
  by_cases hn : 100 < n
  · have hn' : (100 : Int) < n := by omega
    go_enter Try.func9, Try.ntmps9
    go_wp2_with fail
    generalize W.alloc (.cells #[.int .i64 r, .int .i64 v] 63) = wx at *
    refine (H36.out _).mono ?_
    rintro e w1 ⟨rfl, b1⟩
    have hb1 := Lib.hid (hb0.out.trans (b1.mono (by omega)))
    clear b1
    go_wp2_with fail
    refine (H36.out _).mono ?_
    rintro e w2 ⟨rfl, b2⟩
    have hb2 := Lib.hid (hb1.out.trans (b2.mono hb1.out.size))
    clear b2
    go_wp2_with fail
    go_ret
    exact ⟨rfl, hb2.out⟩
  have hn' : ¬ (100 : Int) < n := by omega
  by_cases hr : r < 0 ∨ 255 < r
  · have H44 : Hid (∀ w', Calls Try.prog 44 #[.agg #[.int .i64 r, .int .i64 v]] w' fun e w'' => e = .returned (.tuple #[.slice none 0 0, .int .i64 1]) ∧ Below w'.heap.size w' w'') := Lib.hid (fun w' => encA_bad w' r v hr)
    have hrr := Lib.hid hr
    by_cases hr0 : r < 0
    · clear hr
      go_enter Try.func9, Try.ntmps9
      go_wp2_with fail
      generalize W.alloc (.cells #[.int .i64 r, .int .i64 v] 63) = wx at *
      refine (H36.out _).mono ?_
      rintro e w1 ⟨rfl, b1⟩
      have hx1 := (b1.block W.heap.size (by omega)).trans hx0.out
      have hb1 := Lib.hid (hb0.out.trans (b1.mono (by omega)))
      have k0 : w1.cell? ⟨W.heap.size, 0, none⟩ = some (.int .i64 r) := by simp [World.cell?, hx1]
      have k1 : w1.cell? ⟨W.heap.size, 1, none⟩ = some (.int .i64 v) := by simp [World.cell?, hx1]
      have hs1 := b1.size
      clear b1
      replace hx1 := Lib.hid hx1
      go_wp2_with fail
      refine (H44.out _).mono ?_
      rintro e w2 ⟨rfl, b2⟩
      have hx2 := (b2.block W.heap.size (by omega)).trans hx1.out
      have k0 : w2.cell? ⟨W.heap.size, 0, none⟩ = some (.int .i64 r) := by simp [World.cell?, hx2]
      have hb2 := Lib.hid (hb1.out.trans (b2.mono hb1.out.size))
      clear b2 hx2
      go_wp2_with fail
      go_ret
      exact ⟨rfl, hb2.out⟩
    · have hr1 : 255 < r := by omega
      clear hr
      go_enter Try.func9, Try.ntmps9
      go_wp2_with fail
      generalize W.alloc (.cells #[.int .i64 r, .int .i64 v] 63) = wx at *
      refine (H36.out _).mono ?_
      rintro e w1 ⟨rfl, b1⟩
      have hx1 := (b1.block W.heap.size (by omega)).trans hx0.out
      have hb1 := Lib.hid (hb0.out.trans (b1.mono (by omega)))
      have k0 : w1.cell? ⟨W.heap.size, 0, none⟩ = some (.int .i64 r) := by simp [World.cell?, hx1]
      have k1 : w1.cell? ⟨W.heap.size, 1, none⟩ = some (.int .i64 v) := by simp [World.cell?, hx1]
      have hs1 := b1.size
      clear b1
      replace hx1 := Lib.hid hx1
      go_wp2_with fail
      refine (H44.out _).mono ?_
      rintro e w2 ⟨rfl, b2⟩
      have hx2 := (b2.block W.heap.size (by omega)).trans hx1.out
      have k0 : w2.cell? ⟨W.heap.size, 0, none⟩ = some (.int .i64 r) := by simp [World.cell?, hx2]
      have hb2 := Lib.hid (hb1.out.trans (b2.mono hb1.out.size))
      clear b2 hx2
      go_wp2_with fail
      go_ret
      exact ⟨rfl, hb2.out⟩
  · have hr0 : 0 ≤ r := by omega
    have hr1 : r ≤ 255 := by omega
    have H44 : Hid (∀ w', Calls Try.prog 44 #[.agg #[.int .i64 r, .int .i64 v]] w' fun e w'' => endS w' ([] ++ leB r 1 ++ leB (v % 18446744073709551616) 8) e w'') := Lib.hid (fun w' => encA_ok w' r v hr0 hr1)
    obtain ⟨L, hL⟩ : ∃ L, [] ++ leB r 1 ++ leB (v % 18446744073709551616) 8 = L := ⟨_, rfl⟩
    have hLs := Lib.hid (ans_same hr0 hr1 hv0 hv1 hL.symm)
    have hL9 : L.length = 9 := by rw [← hL]; simp [leB_len]
    have hLk : Hid (okB L) := Lib.hid (by rw [← hL]; exact okB_append (okB_append (fun x hx => by cases hx) (okB_leB _ _)) (okB_leB _ _))
    rw [hL] at H44
    replace hL := Lib.hid hL
    have hr2 : ¬ r < 0 := by omega
    have hr3 : ¬ 255 < r := by omega
    clear hr
    go_enter Try.func9, Try.ntmps9
    go_wp2_with fail
    generalize W.alloc (.cells #[.int .i64 r, .int .i64 v] 63) = wx at *
    refine (H36.out _).mono ?_
    rintro e w1 ⟨rfl, b1⟩
    have hx1 := (b1.block W.heap.size (by omega)).trans hx0.out
    have hb1 := Lib.hid (hb0.out.trans (b1.mono (by omega)))
    have k0 : w1.cell? ⟨W.heap.size, 0, none⟩ = some (.int .i64 r) := by simp [World.cell?, hx1]
    have k1 : w1.cell? ⟨W.heap.size, 1, none⟩ = some (.int .i64 v) := by simp [World.cell?, hx1]
    have hs1 := b1.size
    clear b1
    replace hx1 := Lib.hid hx1
    go_wp2_with fail
    refine (H44.out _).mono ?_
    rintro e w2 ⟨a2, c2, rfl, g1, g2, g3, g4, g5, b2⟩
    have hx2 := Lib.hid ((b2.block W.heap.size (by omega)).trans hx1.out)
    have m0 : w2.cell? ⟨W.heap.size, 0, none⟩ = some (.int .i64 r) := by simp [World.cell?, hx2.out]
    have hb2 := Lib.hid (hb1.out.trans (b2.mono hb1.out.size))
    have hs2 := b2.size
    have H45 := decA (x := r) (y := v) (z := 0) (c := c2) w2 g1 (fun e => (g2 e).1) (by omega) (fun j hj => ok_gtD hLk.out j) (Or.inl (by
      rw [show lof L.length (fun j => L.getD j 0) = L from lof_gtD L]
      exact ⟨rfl, hLs.out⟩))
    rw [hL9] at H45
    rw [hL9]
    replace H45 := Lib.hid H45
    clear g1 g2 g3 g4 g5 b2 k0 k1
    go_wp2_with fail
    refine H45.out.mono ?_
    rintro e w3 ⟨rfl, b3⟩
    have hx3 := (b3.block W.heap.size (by omega)).trans hx2.out
    have k0 : w3.cell? ⟨W.heap.size, 0, none⟩ = some (.int .i64 r) := by simp [World.cell?, hx3]
    have k1 : w3.cell? ⟨W.heap.size, 1, none⟩ = some (.int .i64 v) := by simp [World.cell?, hx3]
    have hb3 := Lib.hid (hb2.out.trans (b3.mono hb2.out.size))
    have hs3 := b3.size
    replace hx3 := Lib.hid hx3
    clear b3 m0
    have hlt3 : W.heap.size < w3.heap.size := by omega
    have hne3 : ¬ W.heap.size = w3.heap.size := by omega
    have hbz : Hid (Below W.heap.size W (w3.alloc (.cells #[.int .i64 r, .int .i64 v] 63))) := Lib.hid (hb3.out.alloc (by omega) _)
    by_cases h9 : n = 9
    · subst h9
      have hll : (lof 9 F).length = 9 := lof_len 9 F
      obtain ⟨q1, q2⟩ := ans_ok hll
      have hok : okB (lof 9 F) := okB_lof hF.out
      obtain ⟨b, o, rfl, hbb, hc⟩ := H.out.2 (by decide)
      have hHB : Hid (∀ w', Below W.heap.size W w' → Calls Try.prog 45 #[.slice (some ⟨b, o, none⟩) (9 : Nat) c] w' fun e w'' => decPost (F 0) (wrap64 (leL ((lof 9 F).drop 1))) 0 w' e w'') := Lib.hid (fun w' hq => by
        refine decA (c := c) w' (H.out.below hq) (fun e => by cases e) (by decide) hF.out (Or.inl ⟨rfl, ?_, ?_, ?_⟩)
        · rw [q1]
          simp [lof, leL, List.range_succ]
        · rw [q1]
          simp only
          rw [q2]
        · rw [q1]
          simp only
          rw [q2]
          rfl)
      have hC0 : Hid (∀ w', Below W.heap.size W w' → w'.cell? ⟨b, o, none⟩ = some (.int .u8 (F 0))) := Lib.hid (fun w' hq => (hq.cell (p := ⟨b, o, none⟩) hbb).trans (hc 0 (by decide)))
      have C18 : Hid (∀ (c' : Nat) (w' : World), Below W.heap.size W w' → Calls Try.prog 18 #[.slice (some ⟨b, o + 1, none⟩) 8 c'] w' fun e w'' => e = .returned (.int .u64 (leL ((lof 9 F).drop 1))) ∧ w'' = w') := Lib.hid (fun c' w' hq => by
        have hx : IntsAt w' .u8 (some ⟨b, o + 1, none⟩) 8 (fun j => F (1 + j)) := ⟨by decide, fun _ => ⟨b, o + 1, rfl, Nat.lt_of_lt_of_le hbb hq.size, fun j hj => by
          have := (hq.cell (p := ⟨b, o + (1 + j), none⟩) hbb).trans (hc (1 + j) (by omega))
          rwa [← Nat.add_assoc] at this⟩⟩
        have hy := refNumber (c := c') hx (by decide) (fun j hj => hF.out (1 + j) (by omega))
        rw [show lof 8 (fun j => F (1 + j)) = (lof 9 F).drop 1 from by simp [lof, List.range_succ]] at hy
        exact hy)
      have hVb := leL_u64 (okB_drop hok 1) (by simp [lof])
      clear q1 q2 hc hok hll
      generalize leL ((lof 9 F).drop 1) = V at *
      have hf0 := hF.out 0 (by decide)
      generalize F 0 = f0 at *
      go_wp2_with fail
      refine (hHB.out _ hbz.out).mono ?_
      rintro e w5 ⟨rfl, b5⟩
      have hb5 := Lib.hid (hbz.out.trans (b5.mono (by simp; omega)))
      have k5 := hC0.out _ hb5.out
      have hb6 : Below W.heap.size W (w5.alloc (.cells #[.int .i64 f0, .int .i64 (wrap64 V)] 63)) := hb5.out.alloc hb5.out.size _
      have k6 := hC0.out _ hb6
      have hlt5 : b < w5.heap.size := Nat.lt_of_lt_of_le hbb hb5.out.size
      replace hb6 := Lib.hid hb6
      clear b5
      have hc1 : ¬ c = 1 := by omega
      have hwf : IntKind.i64.wrap f0 = f0 := IntWalk.i64_in _ (by omega)
      have hwV : IntKind.i64.wrap V = wrap64 V := IntWalk.i64_left V
      have hc9 : (1 : Int) ≤ c := by omega
      go_wp2_with fail
      go_quiet (first | (go_at_call 18; refine Calls.quiet_of_same (C18.out _ _ (hb6.out.trans (below_dn _ _ _)))))
      go_wp2_with fail
      go_ret
      exact ⟨by simp, hb6.out.trans (below_dn _ _ _)⟩
    · have h9' : ¬ (n : Int) = 9 := by omega
      have h9b : ((n : Int) == 9) = false := by simpa using h9'
      have h9c : ((n : Int) != 9) = true := by simp; omega
      have hHB : Hid (∀ w', Below W.heap.size W w' → Calls Try.prog 45 #[.slice a n c] w' fun e w'' => decPost 0 0 3 w' e w'') := Lib.hid (fun w' hq =>
        decA (c := c) w' (H.out.below hq) ha.out (by omega) hF.out (Or.inr ⟨rfl, rfl, rfl, ans_bad (by rw [lof_len]; exact h9)⟩))
      go_wp2_with fail
      refine (hHB.out _ hbz.out).mono ?_
      rintro e w5 ⟨rfl, b5⟩
      have hb5 := Lib.hid (hbz.out.trans (b5.mono (by simp; omega)))
      clear b5
      go_wp2_with fail
      go_ret
      exact ⟨rfl, hb5.out.alloc hb5.out.size _⟩

end Go.Proofs.Ytnkgbigjpihfeaa.Kd
