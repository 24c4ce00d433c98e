/- The law LedgerTotals, walked: whatever is posted, what all accounts have together stays; every list. -/
import Derived.Test.YteeiiahmhmbepaaLedT
import Derived.Laws.Rows
import Derived.Deep.RegionWith
import Derived.BigQuiet
import Derived.Deep.CutRange
import Derived.Deep.RegionHeld3
import Derived.StillTailTactics
set_option linter.unusedVariables false
namespace Go.Proofs.Yteeiiahmhmbepaa.Led
open Go.RowKit Go.Proofs.Yteeiiahmhmbepaa.Lib

def LAt (w : World) (b : Nat) (a0 a1 a2 a3 a4 : Int) : Prop := w.heap[b]? = some (.cells #[.int .i64 a0, .int .i64 a1, .int .i64 a2, .int .i64 a3, .int .i64 a4] 56 (0, 0))
theorem LAt.lt {w : World} {b : Nat} {a0 a1 a2 a3 a4 : Int} (h : LAt w b a0 a1 a2 a3 a4) : b < w.heap.size := (Array.getElem?_eq_some_iff.1 h).1
theorem LAt.below {w w1 : World} {b : Nat} {a0 a1 a2 a3 a4 : Int} (h : LAt w b a0 a1 a2 a3 a4) (hb : Below w.heap.size w w1) : LAt w1 b a0 a1 a2 a3 a4 := (hb.block b h.lt).trans h
theorem info56 : (Try.prog.info? 56).map (·.size) = some 5 := by kernel_rfl

theorem one5 (a b c d e : Int) : (#[Value.int .i64 a, Value.int .i64 b, Value.int .i64 c, Value.int .i64 d, Value.int .i64 e].all (·.oneCell')) = true := by simp [Value.oneCell']

theorem below_setRow {B : Nat} {w w1 : World} (h : Below B w w1) (g : Nat) (cs : Array Value) (hg : B ≤ g) : Below B w (w1.setRow g cs) := by
  refine ⟨h.os, h.tape, h.output, by simp; exact h.size, fun i hi => ?_⟩
  rw [setRow_other w1 g i cs (by omega)]
  exact h.block i hi

theorem post_tot {a0 a1 a2 a3 a4 n0 n1 n2 n3 n4 f t s : Int} (h : postE [a0, a1, a2, a3, a4] f t s = 0) (hn : postL [a0, a1, a2, a3, a4] f t s = [n0, n1, n2, n3, n4]) (h0 : -9223372036854775808 ≤ a0) (h1 : a0 ≤ 9223372036854775807) :
    n0 + n1 + n2 + n3 + n4 = a0 + a1 + a2 + a3 + a4 ∧ -9223372036854775808 ≤ n0 ∧ n0 ≤ 9223372036854775807 := by
  obtain ⟨b1, b2, b3, b4, r1, r2, r3, r4, r5, e⟩ := post_ok h
  obtain ⟨f0, f5⟩ := isB_iff.1 b1
  obtain ⟨t0, t5⟩ := isB_iff.1 b2
  rw [e] at hn
  have q4 := rt_iff.1 r4
  have q5 := rt_iff.1 r5
  clear h e r1 r2 r3 r4 r5 b1 b2
  have hf : f = 0 ∨ f = 1 ∨ f = 2 ∨ f = 3 ∨ f = 4 := by omega
  have ht : t = 0 ∨ t = 1 ∨ t = 2 ∨ t = 3 ∨ t = 4 := by omega
  rcases hf with rfl | rfl | rfl | rfl | rfl <;> rcases ht with rfl | rfl | rfl | rfl | rfl <;> first
    | exact absurd rfl b3
    | (simp at hn q4 q5; omega)

set_option maxRecDepth 100000 in
set_option maxHeartbeats 3200000 in
theorem totals_law (x0 x1 x2 x3 x4 : Int) (hx0 : -9223372036854775808 ≤ x0) (hx1 : x0 ≤ 9223372036854775807) (a : Option Addr) (len cap : Nat) (F T S : Nat → Int) (w : World) (hs : PostsAt w a len F T S) :
    Calls Try.prog 14 #[.agg #[.int .i64 x0, .int .i64 x1, .int .i64 x2, .int .i64 x3, .int .i64 x4], .slice a len cap] w fun e w' => e = .returned (.bool true) ∧ Below w.heap.size w w' := by
  have hbig := hs.1
  have Hs := Lib.hid hs
  clear hs
  by_cases hlong : 100 < len
  · go_enter Try.func14, Try.ntmps14
    go_wp2_with fail
    refine (awake_any _).mono ?_
    rintro e w1 ⟨rfl, hb1⟩
    go_wp2_with fail
    refine (awake_any _).mono ?_
    rintro e w2 ⟨rfl, hb2⟩
    go_wp2_with fail
    go_ret
    have z1 := hb1.size
    simp at z1
    exact ⟨by simp, (((Below.refl _ _).alloc (Nat.le_refl _) _).trans (below_le hb1 (by simp))).trans (below_le hb2 (by omega))⟩
  · have HT := Lib.hid (fun w => total_any x0 x1 x2 x3 x4 w hx0 hx1)
    have htot : wrap64 (wrap64 (wrap64 (wrap64 (x0 + x1) + x2) + x3) + x4) = tot x0 x1 x2 x3 x4 := by simp [tot, wrap_add]
    have HQ := Lib.hid htot
    clear htot
    go_enter Try.func14, Try.ntmps14
    go_wp2_with fail
    refine (awake_any _).mono ?_
    rintro e w1 ⟨rfl, hb1⟩
    obtain ⟨hc1, hf1⟩ := bcell hb1
    have hz1 : w.heap.size < w1.heap.size := by have := hb1.size; simp at this; omega
    go_wp2_with fail
    refine (HT.out _).mono ?_
    rintro e w2 ⟨rfl, hb2⟩
    obtain ⟨hc2, hf2⟩ := bcell hb2
    have hL : LAt w2 w1.heap.size x0 x1 x2 x3 x4 := (hb2.block w1.heap.size (by simp)).trans (heap_alloc_new _ _)
    have hz2 : w1.heap.size < w2.heap.size := hL.lt
    have hb : Below w.heap.size w w2 := ((((Below.refl _ _).alloc (Nat.le_refl _) _).trans (below_le hb1 (by simp))).alloc (by omega) _).trans (below_le hb2 (by simp; omega))
    have hQ := HQ.out
    go_wp2_with fail
    clear hQ HQ hc1 hc2 hf1 hf2 hb1 hb2 HT
    have hz0 : w.heap.size ≤ w1.heap.size := by omega
    clear hz1
    generalize w1.heap.size = L at *
    have Hb := Lib.hid hb
    have HL := Lib.hid hL
    clear hb hL hz2
    go_loopw [40] (fun i wr => ∃ (k : Nat) (a0 a1 a2 a3 a4 : Int), k ≤ len ∧ i = .int .i64 k ∧ Hid (LAt wr L a0 a1 a2 a3 a4) ∧ Hid (tot a0 a1 a2 a3 a4 = tot x0 x1 x2 x3 x4) ∧ -9223372036854775808 ≤ a0 ∧ a0 ≤ 9223372036854775807 ∧ Hid (Below w.heap.size w wr)) (fun i _ => len - (intOf i).toNat)
    case atStart => exact ⟨0, x0, x1, x2, x3, x4, Nat.zero_le _, rfl, HL, Lib.hid rfl, hx0, hx1, Hb⟩
    case round =>
      obtain ⟨k, a0, a1, a2, a3, a4, hk, rfl, hLr, hTr, ha0, ha1, hbr⟩ := hrel
      by_cases hlt : k < len
      · obtain ⟨b, off, rfl, hb, hc⟩ := (Hs.out.below hbr.out).2 (by omega)
        obtain ⟨c1, c2, c3⟩ := hc k hlt
        clear hc
        have d0 : wr.cell? ⟨L, 0, none⟩ = some (.int .i64 a0) := by simp [World.cell?, show wr.heap[L]? = _ from hLr.out]
        have d1 : wr.cell? ⟨L, 1, none⟩ = some (.int .i64 a1) := by simp [World.cell?, show wr.heap[L]? = _ from hLr.out]
        have d2 : wr.cell? ⟨L, 2, none⟩ = some (.int .i64 a2) := by simp [World.cell?, show wr.heap[L]? = _ from hLr.out]
        have d3 : wr.cell? ⟨L, 3, none⟩ = some (.int .i64 a3) := by simp [World.cell?, show wr.heap[L]? = _ from hLr.out]
        have d4 : wr.cell? ⟨L, 4, none⟩ = some (.int .i64 a4) := by simp [World.cell?, show wr.heap[L]? = _ from hLr.out]
        generalize F k = f at *
        generalize T k = t at *
        generalize S k = s at *
        go_wp2_with fail
        obtain ⟨n0, n1, n2, n3, n4, hn⟩ := list5 (post_len [a0, a1, a2, a3, a4] rfl f t s)
        have HP := Lib.hid (post_any [a0, a1, a2, a3, a4] rfl f t s)
        rw [hn] at HP
        rw [arr5, arr5] at HP
        have lL : L < wr.heap.size := hLr.out.lt
        have KS : Hid (∀ w', Below wr.heap.size wr w' → w'.cell? ⟨L, 0, none⟩ = some (.int .i64 a0) ∧ w'.cell? ⟨L, 1, none⟩ = some (.int .i64 a1) ∧ w'.cell? ⟨L, 2, none⟩ = some (.int .i64 a2) ∧ w'.cell? ⟨L, 3, none⟩ = some (.int .i64 a3) ∧ w'.cell? ⟨L, 4, none⟩ = some (.int .i64 a4) ∧ w'.cell? ⟨b, off + k * 3, none⟩ = some (.int .i64 f) ∧ w'.cell? ⟨b, off + k * 3 + 1, none⟩ = some (.int .i64 t) ∧ w'.cell? ⟨b, off + k * 3 + 2, none⟩ = some (.int .i64 s)) := Lib.hid (fun w' hq => ⟨(hq.cell (p := ⟨L, 0, none⟩) lL).trans d0, (hq.cell (p := ⟨L, 1, none⟩) lL).trans d1, (hq.cell (p := ⟨L, 2, none⟩) lL).trans d2, (hq.cell (p := ⟨L, 3, none⟩) lL).trans d3, (hq.cell (p := ⟨L, 4, none⟩) lL).trans d4, (hq.cell (p := ⟨b, off + k * 3, none⟩) hb).trans c1, (hq.cell (p := ⟨b, off + k * 3 + 1, none⟩) hb).trans c2, (hq.cell (p := ⟨b, off + k * 3 + 2, none⟩) hb).trans c3⟩)
        have HPT : Hid (postE [a0, a1, a2, a3, a4] f t s = 0 → n0 + n1 + n2 + n3 + n4 = a0 + a1 + a2 + a3 + a4 ∧ -9223372036854775808 ≤ n0 ∧ n0 ≤ 9223372036854775807) := Lib.hid (fun h => post_tot h hn ha0 ha1)
        clear hn
        generalize postE [a0, a1, a2, a3, a4] f t s = E at *
        go_cut [8, 9, 40] from 40 to 70 (fun s8 s9 s40 W => ∃ nb : Nat, s8 = .pointer (some ⟨nb, 0, none⟩) ∧ s9 = .int .i64 E ∧ s40 = .int .i64 k ∧ LAt W nb n0 n1 n2 n3 n4 ∧ wr.heap.size ≤ nb ∧ Below wr.heap.size wr W)
        case first =>
          go_region_held3 (fun w' => w'.cell? ⟨L, 0, none⟩ = some (.int .i64 a0) ∧ w'.cell? ⟨L, 1, none⟩ = some (.int .i64 a1) ∧ w'.cell? ⟨L, 2, none⟩ = some (.int .i64 a2) ∧ w'.cell? ⟨L, 3, none⟩ = some (.int .i64 a3) ∧ w'.cell? ⟨L, 4, none⟩ = some (.int .i64 a4) ∧ w'.cell? ⟨b, off + k * 3, none⟩ = some (.int .i64 f) ∧ w'.cell? ⟨b, off + k * 3 + 1, none⟩ = some (.int .i64 t) ∧ w'.cell? ⟨b, off + k * 3 + 2, none⟩ = some (.int .i64 s))
            (first
              | exact KS.out _ (Below.refl _ _).drew
              | exact KS.out _ hb4
              | exact KS.out _ (hb4.alloc hb4.size _)
              | exact KS.out _ (((((hb4.setCell (Nat.le_refl _) _).setCell (Nat.le_refl _) _).setCell (Nat.le_refl _) _).setCell (Nat.le_refl _) _).setCell (Nat.le_refl _) _)
              | go_keep)
            ((go_at_call 36; refine (HP.out _).mono ?_; rintro e w3 ⟨rfl, hb3⟩; first | (have hb4 : Below wr.heap.size wr w3 := Below.trans (Below.drew (Below.refl _ _)) hb3) | (have hb4 : Below wr.heap.size wr w3 := Below.trans (Below.drew (Below.alloc (Below.refl _ _) (Nat.le_refl _) _)) (below_le hb3 (by simp)); have hnew : ∀ o, w3.cell? ⟨wr.heap.size, o, none⟩ = (wr.alloc (.cells #[.int .i64 0, .int .i64 0, .int .i64 0, .int .i64 0, .int .i64 0] 56)).cell? ⟨wr.heap.size, o, none⟩ := fun o => hb3.cell (p := ⟨wr.heap.size, o, none⟩) (by simp); have hfrz : ∀ o, w3.frozen? ⟨wr.heap.size, o, none⟩ = (wr.alloc (.cells #[.int .i64 0, .int .i64 0, .int .i64 0, .int .i64 0, .int .i64 0] 56)).frozen? ⟨wr.heap.size, o, none⟩ := fun o => hb3.frozen (p := ⟨wr.heap.size, o, none⟩) (by simp))))
          · go_wp2_with fail
            go_meet
            exact ⟨w3.heap.size, rfl, rfl, rfl, heap_alloc_new _ _, hb4.size, hb4.alloc hb4.size _⟩
          · go_wp2_with fail
            go_meet
            have hblk : w3.heap[wr.heap.size]? = some (.cells #[.int .i64 0, .int .i64 0, .int .i64 0, .int .i64 0, .int .i64 0] 56 (0, 0)) := (hb3.block wr.heap.size (by simp)).trans (heap_alloc_new _ _)
            have b1 := heap_setCell_same _ _ 0 _ _ (.int .i64 n0) hblk
            have b2 := heap_setCell_same _ _ 1 _ _ (.int .i64 n1) b1
            have b3 := heap_setCell_same _ _ 2 _ _ (.int .i64 n2) b2
            have b4 := heap_setCell_same _ _ 3 _ _ (.int .i64 n3) b3
            have b5 := heap_setCell_same _ _ 4 _ _ (.int .i64 n4) b4
            exact ⟨wr.heap.size, rfl, rfl, rfl, b5, Nat.le_refl _, ((((hb4.setCell (Nat.le_refl _) _).setCell (Nat.le_refl _) _).setCell (Nat.le_refl _) _).setCell (Nat.le_refl _) _).setCell (Nat.le_refl _) _⟩
        case rest =>
          obtain ⟨nb, rfl, rfl, rfl, hN, hge, hbw⟩ := hcut
          have hLw := hLr.out.below hbw
          have hbw' : Below w.heap.size w wc := hbr.out.trans (below_le hbw hbr.out.size)
          have HLw := Lib.hid hLw
          have Hbw := Lib.hid hbw'
          have HN := Lib.hid hN
          clear hN hLw hbw' hbw HP d0 d1 d2 d3 d4 c1 c2 c3
          by_cases hE : E = 0
          · obtain ⟨ht, hn0, hn1⟩ := HPT.out hE
            clear HPT
            have T1 := Lib.hid (fun w => total_any n0 n1 n2 n3 n4 w hn0 hn1)
            have htt : tot n0 n1 n2 n3 n4 = tot x0 x1 x2 x3 x4 := by rw [← hTr.out]; exact congrArg wrap64 ht
            rw [htt] at T1
            have HTT := Lib.hid htt
            clear htt ht
            subst hE
            have d0 : wc.cell? ⟨nb, 0, none⟩ = some (.int .i64 n0) := by simp [World.cell?, show wc.heap[nb]? = _ from HN.out]
            have d1 : wc.cell? ⟨nb, 1, none⟩ = some (.int .i64 n1) := by simp [World.cell?, show wc.heap[nb]? = _ from HN.out]
            have d2 : wc.cell? ⟨nb, 2, none⟩ = some (.int .i64 n2) := by simp [World.cell?, show wc.heap[nb]? = _ from HN.out]
            have d3 : wc.cell? ⟨nb, 3, none⟩ = some (.int .i64 n3) := by simp [World.cell?, show wc.heap[nb]? = _ from HN.out]
            have d4 : wc.cell? ⟨nb, 4, none⟩ = some (.int .i64 n4) := by simp [World.cell?, show wc.heap[nb]? = _ from HN.out]
            go_wp2_with fail
            refine (T1.out _).mono ?_
            rintro e w4 ⟨rfl, hb4⟩
            have HN4 := Lib.hid (HN.out.below hb4)
            have HL4 := Lib.hid (HLw.out.below hb4)
            have lN := HN.out.lt
            have e0 : w4.cell? ⟨nb, 0, none⟩ = some (.int .i64 n0) := (hb4.cell (p := ⟨nb, 0, none⟩) lN).trans d0
            have e1 : w4.cell? ⟨nb, 1, none⟩ = some (.int .i64 n1) := (hb4.cell (p := ⟨nb, 1, none⟩) lN).trans d1
            have e2 : w4.cell? ⟨nb, 2, none⟩ = some (.int .i64 n2) := (hb4.cell (p := ⟨nb, 2, none⟩) lN).trans d2
            have e3 : w4.cell? ⟨nb, 3, none⟩ = some (.int .i64 n3) := (hb4.cell (p := ⟨nb, 3, none⟩) lN).trans d3
            have e4 : w4.cell? ⟨nb, 4, none⟩ = some (.int .i64 n4) := (hb4.cell (p := ⟨nb, 4, none⟩) lN).trans d4
            have hfin : Below w.heap.size w w4 := Hbw.out.trans (below_le hb4 Hbw.out.size)
            clear d0 d1 d2 d3 d4 hb4 lN
            go_wp2_with (refine wpList_store_row rfl 56 _ _ rfl L #[.int .i64 n0, .int .i64 n1, .int .i64 n2, .int .i64 n3, .int .i64 n4] rfl rfl 56 _ HL4.out info56 rfl (one5 n0 n1 n2 n3 n4) ?_)
            go_roundw
            case rel => first | exact ⟨k + 1, n0, n1, n2, n3, n4, by omega, by go_num, Lib.hid (setRow_heap _ _ _ _ _ _ HL4.out), HTT, hn0, hn1, Lib.hid (below_setRow hfin L _ hz0)⟩ | ((repeat apply Exists.intro); exact ⟨⟨k + 1, n0, n1, n2, n3, n4, by omega, by go_num, Lib.hid (setRow_heap _ _ _ _ _ _ HL4.out), HTT, hn0, hn1, Lib.hid (below_setRow hfin L _ hz0)⟩, rfl⟩)
            case measure => simp [intOf]; omega
          · have hE1 : (E == 0) = false := by simp [hE]
            have hE2 : (E != 0) = true := by simp [hE]
            clear HPT
            go_wp2_with fail
            go_roundw
            case rel => first | exact ⟨k + 1, a0, a1, a2, a3, a4, by omega, by go_num, HLw, hTr, ha0, ha1, Hbw⟩ | ((repeat apply Exists.intro); exact ⟨⟨k + 1, a0, a1, a2, a3, a4, by omega, by go_num, HLw, hTr, ha0, ha1, Hbw⟩, rfl⟩)
            case measure => simp [intOf]; omega
      · clear hLr hTr Hs
        go_wp2_with fail
        go_ret
        exact ⟨by simp, hbr.out⟩

end Go.Proofs.Yteeiiahmhmbepaa.Led
