/- Whatever is done to a stock, each unit is in one place, and none comes to a shelf that wasn't received and graded: StockStays walked. -/
import Derived.Test.YtmdkclgmibjlfaaSx
import Derived.Deep.RegionHeld3
set_option linter.unusedVariables false
set_option linter.unusedSimpArgs false
namespace Go.Proofs.Ytmdkclgmibjlfaa.Ba
open Go.RowKit Go.Maps Go.Proofs.Ytmdkclgmibjlfaa.Mx Go.Proofs.Ytmdkclgmibjlfaa.Lib

theorem ints_made (w : World) (m : Nat) (t : TypeId) (hm : m ≤ 9223372036854775807) : IntsAt (w.alloc (.cells (madeCells #[.int .i64 0] m) t)) .i64 (some ⟨w.heap.size, 0, none⟩) m (fun _ => 0) := by
  refine ⟨hm, fun _ => ⟨w.heap.size, 0, rfl, by simp, fun j hj => ?_⟩⟩
  have h := heap_alloc_new w (.cells (madeCells #[.int .i64 0] m) t)
  unfold World.cell?
  rw [show (w.alloc (.cells (madeCells #[.int .i64 0] m) t)).heap[(⟨w.heap.size, 0 + j, none⟩ : Addr).block]? = _ from h]
  have e : (madeCells #[.int .i64 0] m)[0 + j]? = some (.int .i64 0) := by
    rw [← Array.getElem?_toList, toList_madeCells_one]
    simp [hj]
  exact e

/-- Is a unit where it may not be? -/
def wrongU (p : Int) (r g : Bool) : Bool := ((p == 3 || p == 4 || p == 5 || p == 7) && !(r && g)) || (g && !r)

theorem InvU.right {p : Int × Int × Bool × Bool} (h : InvU p) : (p.1 = 3 ∨ p.1 = 4 ∨ p.1 = 5 ∨ p.1 = 7) ∧ p.2.2.1 = true ∧ p.2.2.2 = true ∨ (¬ p.1 = 3 ∧ ¬ p.1 = 4 ∧ ¬ p.1 = 5 ∧ ¬ p.1 = 7) ∧ (p.2.2.2 = false ∨ p.2.2.1 = true ∧ p.2.2.2 = true) := by
  by_cases hs : p.1 = 3 ∨ p.1 = 4 ∨ p.1 = 5 ∨ p.1 = 7
  · exact Or.inl ⟨hs, h.shelf hs⟩
  · refine Or.inr ⟨by omega, ?_⟩
    cases hg : p.2.2.2
    · exact Or.inl rfl
    · exact Or.inr ⟨h.gr hg, rfl⟩

set_option maxRecDepth 100000 in
set_option maxHeartbeats 6400000 in
theorem stockStays_walk (a : Option Addr) (m c : Nat) (S : Nat → Int) (s : Option Addr) (n d : Nat) (K A C : Nat → Int) (W : World) (hS : IntsAt W .i64 a m S) (hs : ActsAt W s n K A C) :
    Calls Try.prog 4 #[.slice a m c, .slice s n d] W fun e w' => e = .returned (.bool true) ∧ Below W.heap.size W w' := by
  have hbigm := hS.1
  have hbign := hs.1
  have H11 : Hid (∀ w', Calls Try.prog 14 #[] w' fun e w'' => e = .returned (.bool true) ∧ Below w'.heap.size w' w'') := Lib.hid awake11
  by_cases hbig : 200 < m ∨ 200 < n
  · by_cases hm : 200 < m
    · have hm' : (200 : Int) < m := by omega
      clear hS hs
      go_enter Try.func4, Try.ntmps4
      go_wp2_with fail
      refine (H11.out W).mono ?_
      rintro e w1 ⟨rfl, b1⟩
      go_wp2_with fail
      refine (H11.out _).mono ?_
      rintro e w2 ⟨rfl, b2⟩
      go_wp2_with fail
      go_ret
      exact ⟨rfl, b1.trans (b2.mono b1.size)⟩
    · have hm' : ¬ (200 : Int) < m := by omega
      have hn' : (200 : Int) < n := by omega
      clear hS hs
      go_enter Try.func4, Try.ntmps4
      go_wp2_with fail
      refine (H11.out W).mono ?_
      rintro e w1 ⟨rfl, b1⟩
      go_wp2_with fail
      refine (H11.out _).mono ?_
      rintro e w2 ⟨rfl, b2⟩
      go_wp2_with fail
      go_ret
      exact ⟨rfl, b1.trans (b2.mono b1.size)⟩
  · have hm' : ¬ (200 : Int) < m := by omega
    have hn' : ¬ (200 : Int) < n := by omega
    have HF := Lib.hid hS
    have HS := Lib.hid hs
    have hmm : m ≤ 200 := by omega
    have hnn : n ≤ 200 := by omega
    clear hS hs hbig
    have hmk := run_make_row' (P := Try.prog) 24 3 (.int .i64 0) 8 Try.underlying24 info3 rfl .i64 .i64 m (by omega) (by omega)
    go_enter Try.func4, Try.ntmps4
    go_wp2_with fail
    refine (H11.out W).mono ?_
    rintro e w1 ⟨rfl, b1⟩
    go_wp2_with fail
    have i1 := (HF.out.below b1).below ((Below.refl w1.heap.size w1).alloc (Nat.le_refl _) (.cells (madeCells #[.int .i64 0] m) 3))
    have i2 := ints_made w1 m 3 (by omega)
    have hba := Lib.hid (b1.trans (((Below.refl w1.heap.size w1).alloc (Nat.le_refl _) (.cells (madeCells #[.int .i64 0] m) 3)).mono b1.size))
    have H17 := Lib.hid (snew_any (c := c) (d := m) _ i1 i2 hmm (Y := true) (Lib.hid ((okP_iff m _).2 (fun j hj => ⟨Int.le_refl _, by decide⟩))))
    clear i1 i2 b1 hmk
    generalize w1.heap.size = X at *
    generalize w1.alloc (.cells (madeCells #[.int .i64 0] m) 3) = wa at *
    refine H17.out.mono ?_
    rintro e w2 ⟨h1, _, b2⟩
    obtain ⟨rfl, v, hst⟩ := h1 rfl
    have hbw := Lib.hid (hba.out.trans (b2.mono hba.out.size))
    have hWB := hba.out.size
    have hI0 : ∀ q ∈ usOf (fun _ => 0) S m, InvU q := by
      intro q hq
      simp only [usOf, List.mem_map] at hq
      obtain ⟨j, _, rfl⟩ := hq
      exact ⟨by simp, by simp, by simp, by simp, by simp⟩
    have hst := Lib.hid (show ∃ E, StkAt w2 wa.heap.size v E ∧ E.length = m ∧ ∀ q ∈ E, InvU q from ⟨_, hst, usOf_len _ _ _, hI0⟩)
    clear h1 b2 hI0 H17 hba
    generalize wa.heap.size = B at *
    go_wp2_with fail
    go_loopw [39] (fun i wr => ∃ k : Nat, k ≤ n ∧ i = .int .i64 k ∧ Hid (∃ E, StkAt wr B v E ∧ E.length = m ∧ ∀ q ∈ E, InvU q) ∧ Hid (Below W.heap.size W wr)) (fun i _ => n - (intOf i).toNat)
    case atStart => exact ⟨0, Nat.zero_le _, rfl, hst, hbw⟩
    case round =>
      obtain ⟨k, hk, rfl, hst1, hbl⟩ := hrel
      obtain ⟨E, hE, hEl, hEI⟩ := hst1.out
      clear hst hbw
      by_cases hlt : k < n
      · obtain ⟨b, o, rfl, hbb, hc⟩ := HS.out.2 (by omega)
        obtain ⟨ck, ca, cc⟩ := hc k hlt
        replace ck := (hbl.out.cell (p := ⟨b, o + k * 3, none⟩) hbb).trans ck
        replace ca := (hbl.out.cell (p := ⟨b, o + k * 3 + 1, none⟩) hbb).trans ca
        replace cc := (hbl.out.cell (p := ⟨b, o + k * 3 + 2, none⟩) hbb).trans cc
        have hlt' : (k : Int) < n := by omega
        have C18 := Lib.hid (pick_step hE hEI (A k))
        have C19 : Hid (∀ w', Below wr.heap.size wr w' → Calls Try.prog 19 #[.pointer (some ⟨B, 0, none⟩), .int .i64 (A k), .int .i64 (C k)] w' fun e w'' => (∃ a, e = .returned (.int .i64 a)) ∧ (∃ E', StkAt w'' B v E' ∧ E'.length = E.length ∧ ∀ q ∈ E', InvU q) ∧ Below (B + 1) w' w'') := Lib.hid fun w' hq => move_step (hE.keep hq) hEI (A k) (C k)
        have KS : Hid (∀ w', Below W.heap.size wr w' → w'.cell? ⟨b, o + k * 3 + 1, none⟩ = some (.int .i64 (A k)) ∧ w'.cell? ⟨b, o + k * 3 + 2, none⟩ = some (.int .i64 (C k))) := Lib.hid fun w' hq => ⟨(hq.cell (p := ⟨b, o + k * 3 + 1, none⟩) hbb).trans ca, (hq.cell (p := ⟨b, o + k * 3 + 2, none⟩) hbb).trans cc⟩
        clear hc hE hEI hst1
        have hk3 : K k > 3 ∨ ¬ K k > 3 := by omega
        rcases hk3 with hk3 | hk3
        case' inl =>
          go_upto_region 12 with (first | (go_at_call 18; refine C18.out.mono ?_; rintro e w4 ⟨⟨ra, rb, rfl⟩, h4, hb4⟩; have hb5 : Below W.heap.size wr w4 := hb4.mono (by omega)))
        case' inr =>
          go_wp2_with fail
          go_region_held3 (fun w' => w'.cell? ⟨b, o + k * 3 + 1, none⟩ = some (.int .i64 (A k)) ∧ w'.cell? ⟨b, o + k * 3 + 2, none⟩ = some (.int .i64 (C k)))
            (first
              | exact KS.out _ (Below.refl _ _).drew
              | exact KS.out _ hb5
              | go_keep)
            ((go_at_call 19; refine (C19.out _ (Below.drew (Below.refl _ _))).mono ?_; rintro e w4 ⟨⟨ra, rfl⟩, h4, hb4⟩; have hb5 : Below W.heap.size wr w4 := (Below.refl _ _).drew.trans (hb4.mono (by omega))))
          go_upto_region 12 with fail
        all_goals
          obtain ⟨E2, hE2, hEl2, hEI2⟩ := h4
          have hEm : E2.length = m := hEl2.trans hEl
          have hbl4 := Lib.hid (hbl.out.trans hb5)
          have C20 : Hid (∀ (w' : World) (p : Int), StkAt w' B v E2 → Calls Try.prog 20 #[.pointer (some ⟨B, 0, none⟩), .int .i64 p] w' fun e w'' => e = .returned (.int .i64 (total (fPl p) E2)) ∧ Below w'.heap.size w' w'') := Lib.hid fun w' p h => count_any h p
          have hsum := Lib.hid (show sumP E2 9 = m from by rw [sumP_all E2 hEI2, hEm])
          have hsb := Lib.hid (sumP_bounds E2)
          have htb := Lib.hid (fun p => totalP_bounds p E2)
          have hst4 := Lib.hid hE2
          have hI2 := Lib.hid hEI2
          clear hE2 hEI2 C18 C19 KS ck ca cc hb4 hb5
          generalize wr = wold at *
          go_wp2_with fail
          go_loopw [8, 67] (fun nn i w5 => ∃ kk : Nat, kk ≤ 9 ∧ nn = .int .i64 (sumP E2 kk) ∧ i = .int .i64 kk ∧ Hid (StkAt w5 B v E2) ∧ Hid (Below w4.heap.size w4 w5)) (fun _ i _ => 9 - (intOf i).toNat)
          case atStart => exact ⟨0, Nat.zero_le _, rfl, rfl, hst4, Lib.hid (Below.refl _ _)⟩
          case round =>
            obtain ⟨kk, hkk, rfl, rfl, hst5, hbl5⟩ := hrel
            by_cases h9 : kk < 9
            · have h9' : (kk : Int) < 9 := by omega
              have hs1 := hsb.out (kk + 1)
              have ht1 := htb.out kk
              have hnx := Lib.hid (show sumP E2 (kk + 1) = sumP E2 kk + total (fPl kk) E2 from rfl)
              have hss : ((kk + 1 : Nat) : Int) * (E2.length : Int) ≤ 9 * 200 := Int.mul_le_mul (by omega) (by omega) (by omega) (by omega)
              rw [hnx.out] at hs1
              have hw : wrap64 (sumP E2 kk + total (fPl kk) E2) = sumP E2 kk + total (fPl kk) E2 := by unfold wrap64; omega
              clear hs1 ht1 hss
              go_wp2_with fail
              refine (C20.out _ kk hst5.out).mono ?_
              rintro e w6 ⟨rfl, hb6⟩
              have hst6 := Lib.hid (hst5.out.keep hb6)
              have hbl6 := Lib.hid (hbl5.out.trans (hb6.mono hbl5.out.size))
              go_wp2_with fail
              go_roundw
              case rel => exact ⟨kk + 1, by omega, by rw [hnx.out, hw], by go_num, hst6, hbl6⟩
              case measure => simp [intOf]; omega
            · obtain rfl : kk = 9 := by omega
              rw [hsum.out]
              have hfin := Lib.hid (hbl4.out.trans (hbl5.out.mono hbl4.out.size))
              go_wp2_with fail
              go_roundw
              case rel => exact ⟨k + 1, by omega, by go_num, Lib.hid ⟨E2, hst5.out, hEm, hI2.out⟩, hfin⟩
              case measure => simp [intOf]; omega
      · obtain rfl : k = n := by omega
        have hlt' : ¬ (k : Int) < k := by omega
        have hE' := Lib.hid hE
        have hI' := Lib.hid hEI
        clear hE hEI hst1
        generalize wr = wn at *
        go_wp2_with fail
        go_loopw [83] (fun i w3 => ∃ k2 : Nat, k2 ≤ m ∧ i = .int .i64 k2 ∧ Hid (StkAt w3 B v E) ∧ Hid (Below wn.heap.size wn w3)) (fun i _ => m - (intOf i).toNat)
        case atStart => exact ⟨0, Nat.zero_le _, rfl, hE', Lib.hid (Below.refl _ _)⟩
        case round =>
          obtain ⟨k2, hk2, rfl, hst3, hbl3⟩ := hrel
          by_cases hl2 : k2 < m
          · have hl2' : (k2 : Int) < m := by omega
            have hj : k2 < E.length := by omega
            have C21 := Lib.hid (seen_any hst3.out hj)
            have C22 : Hid (∀ w', StkAt w' B v E → Calls Try.prog 22 #[.pointer (some ⟨B, 0, none⟩), .int .i64 k2] w' fun e w'' => e = .returned (.int .i64 (E.getD k2 d4).1) ∧ w'' = w') := Lib.hid fun w' h => place_any h hj
            have hr := (inv_get hI'.out hj).right
            generalize E.getD k2 d4 = p at *
            obtain ⟨p0, p1, p2, p3⟩ := p
            simp only at hr C21 C22
            rcases hr with ⟨hr, rfl, rfl⟩ | ⟨⟨n3, n4, n5, n7⟩, hr⟩
            · rcases hr with rfl | rfl | rfl | rfl
              all_goals
                go_wp2_with fail
                refine C21.out.mono ?_
                rintro e w4 ⟨rfl, q, rfl⟩
                have hst4 := Lib.hid (hst3.out.keep (below_dn _ wr q))
                have hbl4 := Lib.hid (hbl3.out.trans (below_dn _ wr q))
                generalize wr.drewN q = wq at *
                go_wp2_with fail
                refine (C22.out _ hst4.out).mono ?_
                rintro e w5 ⟨rfl, rfl⟩
                go_wp2_with fail
                go_roundw
                case rel => exact ⟨k2 + 1, by omega, by go_num, hst4, hbl4⟩
                case measure => simp [intOf]; omega
            · have e3 : (p0 == 3) = false := by simpa using n3
              have e4 : (p0 == 4) = false := by simpa using n4
              have e5 : (p0 == 5) = false := by simpa using n5
              have e7 : (p0 == 7) = false := by simpa using n7
              clear n3 n4 n5 n7
              rcases hr with rfl | ⟨rfl, rfl⟩
              all_goals
                go_wp2_with fail
                refine C21.out.mono ?_
                rintro e w4 ⟨rfl, q, rfl⟩
                have hst4 := Lib.hid (hst3.out.keep (below_dn _ wr q))
                have hbl4 := Lib.hid (hbl3.out.trans (below_dn _ wr q))
                generalize wr.drewN q = wq at *
                go_wp2_with fail
                refine (C22.out _ hst4.out).mono ?_
                rintro e w5 ⟨rfl, rfl⟩
                go_wp2_with fail
                go_roundw
                case rel => exact ⟨k2 + 1, by omega, by go_num, hst4, hbl4⟩
                case measure => simp [intOf]; omega
          · obtain rfl : k2 = m := by omega
            have hl2' : ¬ (k2 : Int) < k2 := by omega
            go_wp2_with fail
            go_ret
            exact ⟨rfl, hbl.out.trans (hbl3.out.mono hbl.out.size)⟩

end Go.Proofs.Ytmdkclgmibjlfaa.Ba
