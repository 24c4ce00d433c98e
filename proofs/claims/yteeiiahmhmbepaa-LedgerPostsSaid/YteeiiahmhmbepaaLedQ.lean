/- The law LedgerPosts, walked: every list of postings. -/
import Derived.Test.YteeiiahmhmbepaaLedP
import Derived.Test.YteeiiahmhmbepaaCen
import Derived.Laws.Rows
import Derived.Deep.RegionWith
import Derived.Deep.QuietTactic
import Derived.BigQuiet
import Derived.Deep.CutRange
import Derived.Deep.RegionHeld3
import Derived.StillTailTactics
set_option linter.unusedVariables false
namespace Go.Proofs.Yteeiiahmhmbepaa.Led
open Go.RowKit Go.Proofs.Yteeiiahmhmbepaa.Lib

theorem quiet21 (a : Int) (w : World) : Calls Try.prog 21 #[.int .i64 a] w fun e w' => e = .returned (.bool (rt a)) ∧ w' = w := (refright_any a w).mono fun _ _ h => ⟨h.1, h.2.symm⟩

set_option maxRecDepth 100000 in
set_option maxHeartbeats 3200000 in
theorem posts_law (x0 x1 x2 x3 x4 : Int) (a : Option Addr) (len cap : Nat) (F T S : Nat → Int) (w : World) (hs : PostsAt w a len F T S) :
    Calls Try.prog 11 #[.agg #[.int .i64 x0, .int .i64 x1, .int .i64 x2, .int .i64 x3, .int .i64 x4], .slice a len cap] w fun e w' => e = .returned (.bool true) ∧ Below w.heap.size w w' := by
  have hbig := hs.1
  have Hs := Lib.hid hs
  clear hs
  by_cases hlong : 100 < len
  · go_enter Try.func11, Try.ntmps11
    go_wp2_with fail
    refine (awake_any _).mono ?_
    rintro e w1 ⟨rfl, hb1⟩
    go_wp2_with fail
    refine (awake_any _).mono ?_
    rintro e w2 ⟨rfl, hb2⟩
    go_wp2_with fail
    go_ret
    have z1 := hb1.size
    simp at z1
    exact ⟨by simp, (((Below.refl _ _).alloc (Nat.le_refl _) _).trans (below_le hb1 (by simp))).trans (below_le hb2 (by omega))⟩
  · go_enter Try.func11, Try.ntmps11
    go_wp2_with fail
    refine (awake_any _).mono ?_
    rintro e w1 ⟨rfl, hb1⟩
    obtain ⟨hc1, hf1⟩ := bcell hb1
    have hz1 : w.heap.size < w1.heap.size := by have := hb1.size; simp at this; omega
    have hH1 : HAt w1 w.heap.size x0 x1 x2 x3 x4 := (hb1.block w.heap.size (by simp)).trans (heap_alloc_new _ _)
    go_wp2_with fail
    have hH : HAt (w1.alloc (.cells #[.int .i64 x0, .int .i64 x1, .int .i64 x2, .int .i64 x3, .int .i64 x4] 56)) w.heap.size x0 x1 x2 x3 x4 := hH1.below ((Below.refl _ _).alloc (Nat.le_refl _) _)
    have hL : LAt (w1.alloc (.cells #[.int .i64 x0, .int .i64 x1, .int .i64 x2, .int .i64 x3, .int .i64 x4] 56)) w1.heap.size x0 x1 x2 x3 x4 := heap_alloc_new _ _
    have hb : Below w.heap.size w (w1.alloc (.cells #[.int .i64 x0, .int .i64 x1, .int .i64 x2, .int .i64 x3, .int .i64 x4] 56)) := (((Below.refl _ _).alloc (Nat.le_refl _) _).trans (below_le hb1 (by simp))).alloc (by omega) _
    clear hc1 hf1 hb1 hH1
    generalize (w1.alloc (.cells #[.int .i64 x0, .int .i64 x1, .int .i64 x2, .int .i64 x3, .int .i64 x4] 56)) = wa at *
    have hz0 : w.heap.size ≤ w1.heap.size := by omega
    have hHL : ¬ w.heap.size = w1.heap.size := by omega
    have hz9 : w.heap.size ≤ w.heap.size := by omega
    clear hz1
    generalize w1.heap.size = L at *
    have hs' := Hs.out
    have Hb := Lib.hid hb
    have HL := Lib.hid hL
    have HH := Lib.hid hH
    have HZ := Lib.hid (show ∃ H, H = w.heap.size from ⟨_, rfl⟩)
    obtain ⟨H, hHe⟩ := HZ.out
    rw [← hHe] at hz0 hHL HH hz9
    clear hb hL hH hs' HZ
    simp only [← hHe]
    have Hbase : Hid (Below H w wa) := Lib.hid (by rw [hHe]; exact Hb.out)
    clear Hb
    have HHe := Lib.hid hHe
    clear hHe
    go_loopw [23] (fun i wr => ∃ (k : Nat) (a0 a1 a2 a3 a4 : Int), k ≤ len ∧ i = .int .i64 k ∧ Hid (HAt wr H a0 a1 a2 a3 a4) ∧ Hid (LAt wr L a0 a1 a2 a3 a4) ∧ Hid (Below H w wr)) (fun i _ => len - (intOf i).toNat)
    case atStart => exact ⟨0, x0, x1, x2, x3, x4, Nat.zero_le _, rfl, HH, HL, Hbase⟩
    case round =>
      obtain ⟨k, a0, a1, a2, a3, a4, hk, rfl, hHr, hLr, hbr⟩ := hrel
      by_cases hlt : k < len
      · obtain ⟨b, off, rfl, hb, hc⟩ := (Hs.out.below (w1 := wr) (by rw [← HHe.out]; exact hbr.out)).2 (by omega)
        obtain ⟨c1, c2, c3⟩ := hc k hlt
        clear hc
        have d0 : wr.cell? ⟨L, 0, none⟩ = some (.int .i64 a0) := by simp [World.cell?, show wr.heap[L]? = _ from hLr.out]
        have d1 : wr.cell? ⟨L, 1, none⟩ = some (.int .i64 a1) := by simp [World.cell?, show wr.heap[L]? = _ from hLr.out]
        have d2 : wr.cell? ⟨L, 2, none⟩ = some (.int .i64 a2) := by simp [World.cell?, show wr.heap[L]? = _ from hLr.out]
        have d3 : wr.cell? ⟨L, 3, none⟩ = some (.int .i64 a3) := by simp [World.cell?, show wr.heap[L]? = _ from hLr.out]
        have d4 : wr.cell? ⟨L, 4, none⟩ = some (.int .i64 a4) := by simp [World.cell?, show wr.heap[L]? = _ from hLr.out]
        generalize F k = f at *
        generalize T k = t at *
        generalize S k = s at *
        have lL : L < wr.heap.size := hLr.out.lt
        obtain ⟨n0, n1, n2, n3, n4, hn⟩ := list5 (post_len [a0, a1, a2, a3, a4] rfl f t s)
        have HP := Lib.hid (post_any [a0, a1, a2, a3, a4] rfl f t s)
        have hcs := post_cases (xs := [a0, a1, a2, a3, a4]) rfl hn
        rw [hn] at HP
        rw [arr5, arr5] at HP
        simp only [arr5] at hcs
        have HCS := Lib.hid hcs
        clear hn hcs
        generalize postE [a0, a1, a2, a3, a4] f t s = E at *
        go_wp2_with fail
        refine (HP.out _).mono ?_
        rintro e w3 ⟨rfl, hb3⟩
        have hb4 : Below wr.heap.size wr w3 := ((Below.refl _ _).alloc (Nat.le_refl _) _).trans (below_le hb3 (by simp))
        have hP : w3.heap[wr.heap.size]? = some (.cells #[.int .i64 f, .int .i64 t, .int .i64 s] 58 (0, 0)) := (hb3.block wr.heap.size (by simp)).trans (heap_alloc_new _ _)
        have hH3 := Lib.hid (hHr.out.below hb4)
        have hL3 := Lib.hid (hLr.out.below hb4)
        have lP : wr.heap.size < w3.heap.size := (Array.getElem?_eq_some_iff.1 hP).1
        have lH : H < wr.heap.size := hHr.out.lt
        have hbw : Below H w w3 := hbr.out.trans (below_le hb4 (by omega))
        clear d0 d1 d2 d3 d4 c1 c2 c3 hHr hLr hbr HP hb3 hb4 hb
        generalize wr.heap.size = P at *
        have p0 : w3.cell? ⟨P, 0, none⟩ = some (.int .i64 f) := by simp [World.cell?, hP]
        have p1 : w3.cell? ⟨P, 1, none⟩ = some (.int .i64 t) := by simp [World.cell?, hP]
        have p2 : w3.cell? ⟨P, 2, none⟩ = some (.int .i64 s) := by simp [World.cell?, hP]
        have Hbw := Lib.hid hbw
        clear hP hbw
        rcases HCS.out with ⟨rfl, rfl, rfl, rfl, rfl, rfl, hbad⟩ | ⟨g1, g2, g3, g4, g5, g6, x, y, hx, hy, hcase⟩
        · clear HCS
          have hq := neq56 0 0 0 0 0
          rcases hbad with h1 | ⟨h1, h2⟩ | ⟨h1, h2, h3⟩ | ⟨h1, h2, h3, h4⟩ | ⟨h1, h2, h3, h4, rfl⟩ | ⟨h1, h2, h3, h4, h5, h6⟩
          · go_wp2_with fail
            go_roundw
            case rel => exact ⟨k + 1, a0, a1, a2, a3, a4, by omega, by go_num, Lib.hid (hH3.out.below ((Below.refl _ _).alloc (Nat.le_refl _) _)), Lib.hid (hL3.out.below ((Below.refl _ _).alloc (Nat.le_refl _) _)), Lib.hid (Hbw.out.alloc (by omega) _)⟩
            case measure => simp [intOf]; omega
          · go_wp2_with fail
            go_roundw
            case rel => exact ⟨k + 1, a0, a1, a2, a3, a4, by omega, by go_num, Lib.hid (hH3.out.below ((Below.refl _ _).alloc (Nat.le_refl _) _)), Lib.hid (hL3.out.below ((Below.refl _ _).alloc (Nat.le_refl _) _)), Lib.hid (Hbw.out.alloc (by omega) _)⟩
            case measure => simp [intOf]; omega
          · go_wp2_with fail
            go_roundw
            case rel => exact ⟨k + 1, a0, a1, a2, a3, a4, by omega, by go_num, Lib.hid (hH3.out.below ((Below.refl _ _).alloc (Nat.le_refl _) _)), Lib.hid (hL3.out.below ((Below.refl _ _).alloc (Nat.le_refl _) _)), Lib.hid (Hbw.out.alloc (by omega) _)⟩
            case measure => simp [intOf]; omega
          · go_wp2_with fail
            go_roundw
            case rel => exact ⟨k + 1, a0, a1, a2, a3, a4, by omega, by go_num, Lib.hid (hH3.out.below ((Below.refl _ _).alloc (Nat.le_refl _) _)), Lib.hid (hL3.out.below ((Below.refl _ _).alloc (Nat.le_refl _) _)), Lib.hid (Hbw.out.alloc (by omega) _)⟩
            case measure => simp [intOf]; omega
          · go_wp2_with fail
            go_roundw
            case rel => exact ⟨k + 1, a0, a1, a2, a3, a4, by omega, by go_num, Lib.hid (hH3.out.below ((Below.refl _ _).alloc (Nat.le_refl _) _)), Lib.hid (hL3.out.below ((Below.refl _ _).alloc (Nat.le_refl _) _)), Lib.hid (Hbw.out.alloc (by omega) _)⟩
            case measure => simp [intOf]; omega
          · have h5' : (f == t) = false := by simp [h5]
            go_wp2_with fail
            go_roundw
            case rel => exact ⟨k + 1, a0, a1, a2, a3, a4, by omega, by go_num, Lib.hid (hH3.out.below ((Below.refl _ _).alloc (Nat.le_refl _) _)), Lib.hid (hL3.out.below ((Below.refl _ _).alloc (Nat.le_refl _) _)), Lib.hid (Hbw.out.alloc (by omega) _)⟩
            case measure => simp [intOf]; omega
        · clear HCS
          have g5' : (f == t) = false := by simp [g5]
          have ht0 : w3.cell? ⟨H, f.toNat, none⟩ = some (.int .i64 x) := by simp only [World.cell?, show w3.heap[H]? = _ from hH3.out]; exact hx
          have ht1 : w3.cell? ⟨H, t.toNat, none⟩ = some (.int .i64 y) := by simp only [World.cell?, show w3.heap[H]? = _ from hH3.out]; exact hy
          have lH3 : H < w3.heap.size := by omega
          rcases hcase with ⟨rfl, rfl, rfl, rfl, rfl, rfl, hm⟩ | ⟨rfl, q1, q2, q3, q4, q5, b0, b1, b2, b3, b4, e1, e2, e3⟩
          · clear hx hy
            have hq := neq56 0 0 0 0 0
            rcases hm with h1 | ⟨h1, h2⟩ | ⟨h1, h2, h3⟩ | ⟨h1, h2, h3, h4⟩ | ⟨h1, h2, h3, h4, h5⟩
            · go_wp2_with fail
              go_quiet (first | (go_at_call 21; refine Calls.quiet_of_same (quiet21 _ _)))
              go_wp2_with fail
              go_roundw
              case rel => exact ⟨k + 1, a0, a1, a2, a3, a4, by omega, by go_num, Lib.hid (hH3.out.below (((Below.refl _ _).alloc (Nat.le_refl _) _).trans (below_dn _ _ _))), Lib.hid (hL3.out.below (((Below.refl _ _).alloc (Nat.le_refl _) _).trans (below_dn _ _ _))), Lib.hid ((Hbw.out.alloc (by omega) _).trans (below_dn _ _ _))⟩
              case measure => simp [intOf]; omega
            · go_wp2_with fail
              go_quiet (first | (go_at_call 21; refine Calls.quiet_of_same (quiet21 _ _)))
              go_wp2_with fail
              go_roundw
              case rel => exact ⟨k + 1, a0, a1, a2, a3, a4, by omega, by go_num, Lib.hid (hH3.out.below (((Below.refl _ _).alloc (Nat.le_refl _) _).trans (below_dn _ _ _))), Lib.hid (hL3.out.below (((Below.refl _ _).alloc (Nat.le_refl _) _).trans (below_dn _ _ _))), Lib.hid ((Hbw.out.alloc (by omega) _).trans (below_dn _ _ _))⟩
              case measure => simp [intOf]; omega
            · go_wp2_with fail
              go_quiet (first | (go_at_call 21; refine Calls.quiet_of_same (quiet21 _ _)))
              go_wp2_with fail
              go_roundw
              case rel => exact ⟨k + 1, a0, a1, a2, a3, a4, by omega, by go_num, Lib.hid (hH3.out.below (((Below.refl _ _).alloc (Nat.le_refl _) _).trans (below_dn _ _ _))), Lib.hid (hL3.out.below (((Below.refl _ _).alloc (Nat.le_refl _) _).trans (below_dn _ _ _))), Lib.hid ((Hbw.out.alloc (by omega) _).trans (below_dn _ _ _))⟩
              case measure => simp [intOf]; omega
            · obtain ⟨r0, r1⟩ := rt_iff.1 h1
              obtain ⟨r2, r3⟩ := rt_iff.1 h2
              go_wp2_with fail
              go_quiet (first | (go_at_call 21; refine Calls.quiet_of_same (quiet21 _ _)))
              go_wp2_with fail
              go_roundw
              case rel => exact ⟨k + 1, a0, a1, a2, a3, a4, by omega, by go_num, Lib.hid (hH3.out.below (((Below.refl _ _).alloc (Nat.le_refl _) _).trans (below_dn _ _ _))), Lib.hid (hL3.out.below (((Below.refl _ _).alloc (Nat.le_refl _) _).trans (below_dn _ _ _))), Lib.hid ((Hbw.out.alloc (by omega) _).trans (below_dn _ _ _))⟩
              case measure => simp [intOf]; omega
            · obtain ⟨r0, r1⟩ := rt_iff.1 h1
              obtain ⟨r2, r3⟩ := rt_iff.1 h2
              obtain ⟨r4, r5⟩ := rt_iff.1 h3
              go_wp2_with fail
              go_quiet (first | (go_at_call 21; refine Calls.quiet_of_same (quiet21 _ _)))
              go_wp2_with fail
              go_roundw
              case rel => exact ⟨k + 1, a0, a1, a2, a3, a4, by omega, by go_num, Lib.hid (hH3.out.below (((Below.refl _ _).alloc (Nat.le_refl _) _).trans (below_dn _ _ _))), Lib.hid (hL3.out.below (((Below.refl _ _).alloc (Nat.le_refl _) _).trans (below_dn _ _ _))), Lib.hid ((Hbw.out.alloc (by omega) _).trans (below_dn _ _ _))⟩
              case measure => simp [intOf]; omega
          · obtain ⟨r0, r1⟩ := rt_iff.1 q1
            obtain ⟨r2, r3⟩ := rt_iff.1 q2
            obtain ⟨r4, r5⟩ := rt_iff.1 q3
            go_wp2_with fail
            go_quiet (first | (go_at_call 21; refine Calls.quiet_of_same (quiet21 _ _)))
            go_wp2_with fail
            have hbq : Below w3.heap.size w3 ((w3.alloc (.cells #[.int .i64 n0, .int .i64 n1, .int .i64 n2, .int .i64 n3, .int .i64 n4] 56)).drewN nq) := ((Below.refl _ _).alloc (Nat.le_refl _) _).trans (below_dn _ _ _)
            have hN : LAt ((w3.alloc (.cells #[.int .i64 n0, .int .i64 n1, .int .i64 n2, .int .i64 n3, .int .i64 n4] 56)).drewN nq) w3.heap.size n0 n1 n2 n3 n4 := heap_alloc_new _ _
            generalize (w3.alloc (.cells #[.int .i64 n0, .int .i64 n1, .int .i64 n2, .int .i64 n3, .int .i64 n4] 56)).drewN nq = wq at *
            have HN := Lib.hid hN
            have z0 : wq.cell? ⟨P, 0, none⟩ = some (.int .i64 f) := (hbq.cell (p := ⟨P, 0, none⟩) lP).trans p0
            have z1 : wq.cell? ⟨P, 1, none⟩ = some (.int .i64 t) := (hbq.cell (p := ⟨P, 1, none⟩) lP).trans p1
            have z2 : wq.cell? ⟨P, 2, none⟩ = some (.int .i64 s) := (hbq.cell (p := ⟨P, 2, none⟩) lP).trans p2
            have z3 : wq.cell? ⟨H, f.toNat, none⟩ = some (.int .i64 x) := (hbq.cell (p := ⟨H, f.toNat, none⟩) lH3).trans ht0
            have HHq := Lib.hid (hH3.out.below hbq)
            have HLq := Lib.hid (hL3.out.below hbq)
            have HBq := Lib.hid (Hbw.out.trans (below_le hbq (show H ≤ w3.heap.size by omega)))
            have z4 := hbq.size
            clear hN hbq p0 p1 p2 ht0 ht1 hH3 hL3 Hbw q1 q2 q3 q4 q5
            generalize w3.heap.size = N at *
            have f5 : f < 5 := by omega
            have t5 : t < 5 := by omega
            have y0 : wq.frozen? ⟨H, f.toNat, none⟩ = false := by simp [World.frozen?, show wq.heap[H]? = _ from HHq.out]
            go_still_tail 10, (by kernel_rfl)
            change wpList _ _ _ _ _ wq.drew
            go_wp2_with fail
            have h1 := heap_setCell_same wq H f.toNat _ _ (.int .i64 (x - s)) HHq.out
            rw [e1] at h1
            have s0 := (set_other wq H f.toNat (.int .i64 (x - s)) P 0 (by omega)).trans z0
            have s1 := (set_other wq H f.toNat (.int .i64 (x - s)) P 1 (by omega)).trans z1
            have s2 := (set_other wq H f.toNat (.int .i64 (x - s)) P 2 (by omega)).trans z2
            have s3 : (wq.setCell ⟨H, f.toNat, none⟩ (.int .i64 (x - s))).cell? ⟨H, t.toNat, none⟩ = some (.int .i64 y) := by simp only [World.cell?, h1]; exact e2
            have s4 := (heap_setCell_other wq ⟨H, f.toNat, none⟩ L (.int .i64 (x - s)) (Ne.symm hHL)).trans HLq.out
            have s5 := (heap_setCell_other wq ⟨H, f.toNat, none⟩ N (.int .i64 (x - s)) (by show N ≠ H; omega)).trans HN.out
            have s6 := Below.drew (Below.setCell (p := ⟨H, f.toNat, none⟩) HBq.out (Nat.le_refl H) (.int .i64 (x - s)))
            have s7 : ((wq.setCell ⟨H, f.toNat, none⟩ (.int .i64 (x - s))).drew).heap = (wq.setCell ⟨H, f.toNat, none⟩ (.int .i64 (x - s))).heap := rfl
            have s8 : ∀ p, ((wq.setCell ⟨H, f.toNat, none⟩ (.int .i64 (x - s))).drew).cell? p = (wq.setCell ⟨H, f.toNat, none⟩ (.int .i64 (x - s))).cell? p := fun _ => rfl
            rw [← s7] at h1 s4 s5
            rw [← s8] at s0 s1 s2 s3
            clear s7 s8 z0 z1 z2 z3 z4 y0
            clear HHq HLq HBq HN e1 e2
            generalize (wq.setCell ⟨H, f.toNat, none⟩ (.int .i64 (x - s))).drew = wq2 at *
            have HHq := Lib.hid h1
            have HLq : Hid (LAt wq2 L a0 a1 a2 a3 a4) := Lib.hid s4
            have HN : Hid (LAt wq2 N n0 n1 n2 n3 n4) := Lib.hid s5
            have HBq := Lib.hid s6
            have y0 : wq2.frozen? ⟨H, t.toNat, none⟩ = false := by simp [World.frozen?, h1]
            clear h1 s4 s5 s6
            go_still_tail 10, (by kernel_rfl)
            change wpList _ _ _ _ _ wq2.drew
            go_upto_region 17 with fail
            have h1 := heap_setCell_same wq2 H t.toNat _ _ (.int .i64 (y + s)) HHq.out
            rw [e3] at h1
            have s4 := (heap_setCell_other wq2 ⟨H, t.toNat, none⟩ L (.int .i64 (y + s)) (Ne.symm hHL)).trans HLq.out
            have s5 := (heap_setCell_other wq2 ⟨H, t.toNat, none⟩ N (.int .i64 (y + s)) (by show N ≠ H; omega)).trans HN.out
            have s6 := Below.drew (Below.setCell (p := ⟨H, t.toNat, none⟩) HBq.out (Nat.le_refl H) (.int .i64 (y + s)))
            have s7 : ((wq2.setCell ⟨H, t.toNat, none⟩ (.int .i64 (y + s))).drew).heap = (wq2.setCell ⟨H, t.toNat, none⟩ (.int .i64 (y + s))).heap := rfl
            rw [← s7] at h1 s4 s5
            clear s7 y0 s0 s1 s2 s3 HHq HLq HBq HN e3
            generalize (wq2.setCell ⟨H, t.toNat, none⟩ (.int .i64 (y + s))).drew = wq3 at *
            have v0 : wq3.cell? ⟨N, 0, none⟩ = some (.int .i64 n0) := by simp [World.cell?, s5]
            have v1 : wq3.cell? ⟨N, 1, none⟩ = some (.int .i64 n1) := by simp [World.cell?, s5]
            have v2 : wq3.cell? ⟨N, 2, none⟩ = some (.int .i64 n2) := by simp [World.cell?, s5]
            have v3 : wq3.cell? ⟨N, 3, none⟩ = some (.int .i64 n3) := by simp [World.cell?, s5]
            have v4 : wq3.cell? ⟨N, 4, none⟩ = some (.int .i64 n4) := by simp [World.cell?, s5]
            have u0' : wq3.cell? ⟨H, 0, none⟩ = some (.int .i64 n0) := by simp [World.cell?, h1]
            have u1' : wq3.cell? ⟨H, 1, none⟩ = some (.int .i64 n1) := by simp [World.cell?, h1]
            have u2' : wq3.cell? ⟨H, 2, none⟩ = some (.int .i64 n2) := by simp [World.cell?, h1]
            have u3' : wq3.cell? ⟨H, 3, none⟩ = some (.int .i64 n3) := by simp [World.cell?, h1]
            have u4' : wq3.cell? ⟨H, 4, none⟩ = some (.int .i64 n4) := by simp [World.cell?, h1]
            have HHq : Hid (HAt wq3 H n0 n1 n2 n3 n4) := Lib.hid h1
            have HLq : Hid (LAt wq3 L a0 a1 a2 a3 a4) := Lib.hid s4
            have HBq := Lib.hid s6
            clear h1 s4 s5 s6
            have hq := neq53 n0 n1 n2 n3 n4
            go_wp2_with (refine wpList_store_row rfl 56 _ _ rfl L #[.int .i64 n0, .int .i64 n1, .int .i64 n2, .int .i64 n3, .int .i64 n4] rfl rfl 56 _ HLq.out info56 rfl (one5 n0 n1 n2 n3 n4) ?_)
            go_roundw
            case rel =>
              first
                | exact ⟨k + 1, n0, n1, n2, n3, n4, by omega, by go_num, Lib.hid ((setRow_other wq3 L H _ hHL).trans HHq.out), Lib.hid (setRow_heap _ _ _ _ _ _ HLq.out), Lib.hid (below_setRow HBq.out L _ hz0)⟩
                | ((repeat apply Exists.intro); exact ⟨⟨k + 1, n0, n1, n2, n3, n4, by omega, by go_num, Lib.hid ((setRow_other wq3 L H _ hHL).trans HHq.out), Lib.hid (setRow_heap _ _ _ _ _ _ HLq.out), Lib.hid (below_setRow HBq.out L _ hz0)⟩, rfl⟩)
            case measure => simp [intOf]; omega
      · clear Hs
        have HB := Lib.hid (fun n => balance_any [a0, a1, a2, a3, a4] rfl n)
        rw [arr5] at HB
        go_wp2_with fail
        go_loopw [157] (fun i wr => ∃ j : Nat, j ≤ 5 ∧ i = .int .i64 j ∧ Hid (HAt wr H a0 a1 a2 a3 a4) ∧ Hid (LAt wr L a0 a1 a2 a3 a4) ∧ Hid (Below H w wr)) (fun i _ => 5 - (intOf i).toNat)
        case atStart => exact ⟨0, by omega, rfl, hHr, hLr, hbr⟩
        case round =>
          obtain ⟨j, hj, rfl, hHj, hLj, hbj⟩ := hrel
          clear hHr hLr hbr
          by_cases hj5 : j < 5
          · have hB : isB (j : Int) = true := isB_iff.2 ⟨by omega, by omega⟩
            have hg := arr_get [a0, a1, a2, a3, a4] j hj5
            rw [arr5] at hg
            have KB := Lib.hid (HB.out (j : Int))
            simp only [hB, if_true, Int.toNat_natCast] at KB
            clear HB hB
            generalize [a0, a1, a2, a3, a4].getD j 0 = v at *
            have d0 : wr.cell? ⟨L, 0, none⟩ = some (.int .i64 a0) := by simp [World.cell?, show wr.heap[L]? = _ from hLj.out]
            have d1 : wr.cell? ⟨L, 1, none⟩ = some (.int .i64 a1) := by simp [World.cell?, show wr.heap[L]? = _ from hLj.out]
            have d2 : wr.cell? ⟨L, 2, none⟩ = some (.int .i64 a2) := by simp [World.cell?, show wr.heap[L]? = _ from hLj.out]
            have d3 : wr.cell? ⟨L, 3, none⟩ = some (.int .i64 a3) := by simp [World.cell?, show wr.heap[L]? = _ from hLj.out]
            have d4 : wr.cell? ⟨L, 4, none⟩ = some (.int .i64 a4) := by simp [World.cell?, show wr.heap[L]? = _ from hLj.out]
            have dh : wr.cell? ⟨H, j, none⟩ = some (.int .i64 v) := by simp only [World.cell?, show wr.heap[H]? = _ from hHj.out]; exact hg
            have lL : L < wr.heap.size := hLj.out.lt
            have lH : H < wr.heap.size := hHj.out.lt
            have KS : Hid (∀ w', Below wr.heap.size wr w' → w'.cell? ⟨L, 0, none⟩ = some (.int .i64 a0) ∧ w'.cell? ⟨L, 1, none⟩ = some (.int .i64 a1) ∧ w'.cell? ⟨L, 2, none⟩ = some (.int .i64 a2) ∧ w'.cell? ⟨L, 3, none⟩ = some (.int .i64 a3) ∧ w'.cell? ⟨L, 4, none⟩ = some (.int .i64 a4) ∧ w'.cell? ⟨H, j, none⟩ = some (.int .i64 v)) := Lib.hid (fun w' hq => ⟨(hq.cell (p := ⟨L, 0, none⟩) lL).trans d0, (hq.cell (p := ⟨L, 1, none⟩) lL).trans d1, (hq.cell (p := ⟨L, 2, none⟩) lL).trans d2, (hq.cell (p := ⟨L, 3, none⟩) lL).trans d3, (hq.cell (p := ⟨L, 4, none⟩) lL).trans d4, (hq.cell (p := ⟨H, j, none⟩) lH).trans dh⟩)
            go_wp2_with fail
            go_region_held3 (fun w' => w'.cell? ⟨L, 0, none⟩ = some (.int .i64 a0) ∧ w'.cell? ⟨L, 1, none⟩ = some (.int .i64 a1) ∧ w'.cell? ⟨L, 2, none⟩ = some (.int .i64 a2) ∧ w'.cell? ⟨L, 3, none⟩ = some (.int .i64 a3) ∧ w'.cell? ⟨L, 4, none⟩ = some (.int .i64 a4) ∧ w'.cell? ⟨H, j, none⟩ = some (.int .i64 v))
              (first
                | exact KS.out _ (Below.refl _ _).drew
                | exact KS.out _ hb4
                | go_keep)
              ((go_at_call 37; refine (KB.out _).mono ?_; rintro e w3 ⟨rfl, hb3⟩; have hb4 : Below wr.heap.size wr w3 := Below.trans (Below.drew (Below.refl _ _)) hb3))
            all_goals
              have hLw := hLj.out.below hb4
              have hHw := hHj.out.below hb4
              have hbw : Below H w w3 := hbj.out.trans (below_le hb4 (by omega))
              clear hg d0 d1 d2 d3 d4 dh KS KB
              go_wp2_with fail
              go_roundw
              case rel => first | exact ⟨j + 1, by omega, by go_num, Lib.hid hHw, Lib.hid hLw, Lib.hid hbw⟩ | ((repeat apply Exists.intro); exact ⟨⟨j + 1, by omega, by go_num, Lib.hid hHw, Lib.hid hLw, Lib.hid hbw⟩, rfl⟩)
              case measure => simp [intOf]; omega
          · clear HB hHj hLj
            go_wp2_with fail
            go_ret
            exact ⟨by simp, by rw [← HHe.out]; exact hbj.out⟩

end Go.Proofs.Yteeiiahmhmbepaa.Led
