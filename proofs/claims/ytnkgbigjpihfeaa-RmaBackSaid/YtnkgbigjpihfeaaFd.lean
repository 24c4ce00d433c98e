/- Any bytes are taken as a return, or nothing; what is taken is put as the same bytes: the walk of RmaReads. -/
import Derived.Test.YtnkgbigjpihfeaaFc
import Derived.Test.YtnkgbigjpihfeaaMb
import Derived.Deep.QuietTactic
import Derived.BigQuiet
set_option linter.unusedVariables false
set_option linter.unusedSimpArgs false
namespace Go.Proofs.Ytnkgbigjpihfeaa.Kd
open Go.RowKit Go.Proofs.Ytnkgbigjpihfeaa.Lib
open Go.Proofs.Ytnkgbigjpihfeaa.Ma (alloc_keep alloc_at setRow_h info76 awake14 below_lee)

theorem rfew {x0 x1 x2 x3 x4 x6 x7 x10 x11 x12 x13 : Int} {x5 : Bool} {us gs : List Int} (hu : us.length ≤ 1000) (hg : gs.length ≤ 1000) : fewP (rmP x0 x1 x2 x3 x4 x6 x7 x10 x11 x12 x13 x5 us gs) := by
  refine ⟨fun p hp => ?_, by simp [rmP]; omega⟩
  simp only [rmP, List.mem_append, List.mem_cons, List.not_mem_nil, or_false, List.mem_map] at hp
  rcases hp with (((rfl | rfl | rfl | rfl | rfl | rfl | rfl | rfl | rfl) | ⟨j, _, rfl⟩) | ⟨j, _, rfl⟩) | (rfl | rfl | rfl | rfl) <;> simp

theorem list_range (us : List Int) : (List.range us.length).map (fun j => us.getD j 0) = us := by
  apply List.ext_getElem
  · simp
  · intro i h1 h2
    simp at h1
    simp [List.getD, h1]

set_option maxRecDepth 100000 in
theorem equal_zero (w : World) : Calls Try.prog 50 #[.agg #[.int .i64 0, .int .i64 0, .int .i64 0, .int .i64 0, .int .i64 0, .bool false, .int .i64 0, .int .i64 0, .slice none 0 0, .slice none 0 0, .int .i64 0, .int .i64 0, .int .i64 0, .int .i64 0], .agg #[.int .i64 0, .int .i64 0, .int .i64 0, .int .i64 0, .int .i64 0, .bool false, .int .i64 0, .int .i64 0, .slice none 0 0, .slice none 0 0, .int .i64 0, .int .i64 0, .int .i64 0, .int .i64 0]] w fun e w' => e = .returned (.bool true) ∧ Below w.heap.size w w' := by
  have hn : IntsAt w .i64 none 0 (fun _ => 0) := ⟨by omega, fun h => absurd h (by omega)⟩
  have := Ma.equal_any 0 0 0 0 0 0 0 0 0 0 0 false none none 0 0 0 0 (fun _ => 0) (fun _ => 0) 0 0 0 0 0 0 0 0 0 0 0 false none none 0 0 0 0 (fun _ => 0) (fun _ => 0) w hn hn hn hn
  exact this

set_option maxRecDepth 100000 in
set_option maxHeartbeats 6400000 in
theorem rmaReads_walk (a : Option Addr) (n c : Nat) (F : Nat → Int) (W : World) (h : IntsAt W .u8 a n F) (ha : a = none → n = 0) (hF : ∀ j, j < n → 0 ≤ F j ∧ F j < 256) :
    Calls Try.prog 14 #[.slice a n c] W fun e w' => e = .returned (.bool true) ∧ Below W.heap.size W w' := by
  have HN : Hid (∀ w', Calls Try.prog 48 #[] w' fun e w'' => e = .returned (.bool true) ∧ w' = w'') := Lib.hid awake14
  have hbig := h.1
  have HX : Hid (∀ w', Below W.heap.size W w' → IntsAt w' .u8 a n F) := Lib.hid (fun w' hb => h.below hb)
  by_cases hn : 2000 < n
  · have hn' : (2000 : Int) < n := by omega
    clear h ha hF
    go_enter Try.func14, Try.ntmps14
    go_wp2_with fail
    refine (HN.out _).mono ?_
    rintro e w1 ⟨rfl, rfl⟩
    go_wp2_with fail
    refine (HN.out _).mono ?_
    rintro e w2 ⟨rfl, rfl⟩
    go_wp2_with fail
    go_ret
    exact ⟨rfl, Below.refl _ _⟩
  · have hn' : ¬ (2000 : Int) < n := by omega
    have H16 := Lib.hid (newIn_l (c := c) h ha (by omega) hF)
    have hll : (lof n F).length = n := lof_len n F
    have hgt : Hid (∀ j, j < n → F j = gtD (lof n F) j) := Lib.hid (fun j hj => (gtD_lof hj).symm)
    have HQ : Hid (∀ w', Calls Try.prog 50 #[.agg #[.int .i64 0, .int .i64 0, .int .i64 0, .int .i64 0, .int .i64 0, .bool false, .int .i64 0, .int .i64 0, .slice none 0 0, .slice none 0 0, .int .i64 0, .int .i64 0, .int .i64 0, .int .i64 0], .agg #[.int .i64 0, .int .i64 0, .int .i64 0, .int .i64 0, .int .i64 0, .bool false, .int .i64 0, .int .i64 0, .slice none 0 0, .slice none 0 0, .int .i64 0, .int .i64 0, .int .i64 0, .int .i64 0]] w' fun e w'' => e = .returned (.bool true) ∧ Below w'.heap.size w' w'') := Lib.hid equal_zero
    generalize lof n F = L at *
    clear h ha hF
    replace hll := Lib.hid hll
    go_enter Try.func14, Try.ntmps14
    go_wp2_with fail
    refine (HN.out _).mono ?_
    rintro e w0 ⟨rfl, rfl⟩
    go_wp2_with fail
    refine H16.out.mono ?_
    rintro e w1 ⟨I, rfl, hI, hIs, b1⟩
    have hb1 := Lib.hid b1
    have hIl := hI.lt
    have HR := Lib.hid (take_any hI.inD (Nat.le_refl _))
    clear b1 hI
    go_wp2_with fail
    refine HR.out.mono ?_
    rintro e w2 ⟨x0, x1, x2, x3, x4, x6, x7, x10, x11, x12, x13, x5, us, gs, L', bad, hI2, hg2, hJ, hJ9, hul, hu200, hub, hgb, h0, h1, h2, h3, h4, h6, h7, hall, hres⟩
    have hb2 := hb1.out.trans ((grown_below hg2 hIl).mono (by omega))
    have hI2l := hI2.lt
    have hDI := hI2.okB
    rcases hres with ⟨rfl, rfl⟩ | ⟨rfl, xa, xd, xc, xe, rfl, hx, hy, hxn, hyn, hxb, hyb⟩
    · have hB3 : (w2.alloc (.cells #[.int .i64 0, .int .i64 0, .int .i64 0, .int .i64 0, .int .i64 0, .bool false, .int .i64 0, .int .i64 0, .slice none 0 0, .slice none 0 0, .int .i64 0, .int .i64 0, .int .i64 0, .int .i64 0] 76)).heap[w2.heap.size]? = some (.cells #[.int .i64 0, .int .i64 0, .int .i64 0, .int .i64 0, .int .i64 0, .bool false, .int .i64 0, .int .i64 0, .slice none 0 0, .slice none 0 0, .int .i64 0, .int .i64 0, .int .i64 0, .int .i64 0] 76 (0, 0)) := heap_alloc_new _ _
      have hb3 := Lib.hid (hb2.alloc hb2.size (.cells #[.int .i64 0, .int .i64 0, .int .i64 0, .int .i64 0, .int .i64 0, .bool false, .int .i64 0, .int .i64 0, .slice none 0 0, .slice none 0 0, .int .i64 0, .int .i64 0, .int .i64 0, .int .i64 0] 76))
      have H19 := Lib.hid (bad_r (hI2.alloc (.cells #[.int .i64 0, .int .i64 0, .int .i64 0, .int .i64 0, .int .i64 0, .bool false, .int .i64 0, .int .i64 0, .slice none 0 0, .slice none 0 0, .int .i64 0, .int .i64 0, .int .i64 0, .int .i64 0] 76)).inL)
      obtain ⟨k0, k1, k2, k3, k4, k5, k6, k7, k8, k9, k10, k11, k12, k13⟩ := rbox_cells 0 0 0 0 0 0 0 0 0 0 0 false none none 0 0 0 0 (fun _ => 0) (fun _ => 0) hB3
      replace hB3 := Lib.hid hB3
      clear hI2 hg2 hJ hJ9 hul hu200 hub hgb h0 h1 h2 h3 h4 h6 h7 hall hb2 hDI
      go_upto_region 5 with fail
      generalize w2.alloc (.cells #[.int .i64 0, .int .i64 0, .int .i64 0, .int .i64 0, .int .i64 0, .bool false, .int .i64 0, .int .i64 0, .slice none 0 0, .slice none 0 0, .int .i64 0, .int .i64 0, .int .i64 0, .int .i64 0] 76) = w3 at *
      generalize w2.heap.size = P at *
      go_wp2_with fail
      refine H19.out.mono ?_
      rintro e w4 ⟨rfl, rfl⟩
      go_wp2_with fail
      refine (HQ.out _).mono ?_
      rintro e w5 ⟨rfl, b5⟩
      have hb5 := Lib.hid (hb3.out.trans (below_lee b5 hb3.out.size))
      clear b5 k0 k1 k2 k3 k4 k5 k6 k7 k8 k9 k10 k11 k12 k13
      go_wp2_with fail
      go_ret
      exact ⟨rfl, hb5.out⟩
    · obtain ⟨hL, hgood⟩ := hJ.1 rfl
      have hg200 : gs.length ≤ 200 := by omega
      replace hul := Lib.hid hul
      have hflat := rmP_flat (x0 := x0) (x1 := x1) (x2 := x2) (x3 := x3) (x6 := x6) (x7 := x7) (x10 := x10) (x11 := x11) (x12 := x12) (x13 := x13) (x5 := x5) (us := us) (gs := gs) (x4 := x4) (by omega) (fun x hx => by have := hgb x hx; omega)
      rw [← hflat] at hL
      have hgp : (rmP x0 x1 x2 x3 x4 x6 x7 x10 x11 x12 x13 x5 us gs).all goodP = true := by rw [hflat]; exact flat_good hgood
      have hfw := rfew (x0 := x0) (x1 := x1) (x2 := x2) (x3 := x3) (x4 := x4) (x6 := x6) (x7 := x7) (x10 := x10) (x11 := x11) (x12 := x12) (x13 := x13) (x5 := x5) (us := us) (gs := gs) (by omega) (by omega)
      have hB3 : (w2.alloc (.cells #[.int .i64 x0, .int .i64 x1, .int .i64 x2, .int .i64 x3, .int .i64 x4, .bool x5, .int .i64 x6, .int .i64 x7, .slice xa us.length xc, .slice xd gs.length xe, .int .i64 x10, .int .i64 x11, .int .i64 x12, .int .i64 x13] 76)).heap[w2.heap.size]? = some (.cells #[.int .i64 x0, .int .i64 x1, .int .i64 x2, .int .i64 x3, .int .i64 x4, .bool x5, .int .i64 x6, .int .i64 x7, .slice xa us.length xc, .slice xd gs.length xe, .int .i64 x10, .int .i64 x11, .int .i64 x12, .int .i64 x13] 76 (0, 0)) := heap_alloc_new _ _
      have hb3 := Lib.hid (hb2.alloc hb2.size (.cells #[.int .i64 x0, .int .i64 x1, .int .i64 x2, .int .i64 x3, .int .i64 x4, .bool x5, .int .i64 x6, .int .i64 x7, .slice xa us.length xc, .slice xd gs.length xe, .int .i64 x10, .int .i64 x11, .int .i64 x12, .int .i64 x13] 76))
      have hs3 : (w2.alloc (.cells #[.int .i64 x0, .int .i64 x1, .int .i64 x2, .int .i64 x3, .int .i64 x4, .bool x5, .int .i64 x6, .int .i64 x7, .slice xa us.length xc, .slice xd gs.length xe, .int .i64 x10, .int .i64 x11, .int .i64 x12, .int .i64 x13] 76)).heap.size = w2.heap.size + 1 := by simp
      have hI3 := Lib.hid (hI2.alloc (.cells #[.int .i64 x0, .int .i64 x1, .int .i64 x2, .int .i64 x3, .int .i64 x4, .bool x5, .int .i64 x6, .int .i64 x7, .slice xa us.length xc, .slice xd gs.length xe, .int .i64 x10, .int .i64 x11, .int .i64 x12, .int .i64 x13] 76))
      have hx3 := Lib.hid (Ma.ints_alloc hx (.cells #[.int .i64 x0, .int .i64 x1, .int .i64 x2, .int .i64 x3, .int .i64 x4, .bool x5, .int .i64 x6, .int .i64 x7, .slice xa us.length xc, .slice xd gs.length xe, .int .i64 x10, .int .i64 x11, .int .i64 x12, .int .i64 x13] 76))
      have hy3 := Lib.hid (Ma.ints_alloc hy (.cells #[.int .i64 x0, .int .i64 x1, .int .i64 x2, .int .i64 x3, .int .i64 x4, .bool x5, .int .i64 x6, .int .i64 x7, .slice xa us.length xc, .slice xd gs.length xe, .int .i64 x10, .int .i64 x11, .int .i64 x12, .int .i64 x13] 76))
      have H19 := Lib.hid (bad_r hI3.out.inL)
      have hlt1 := hg2.size
      replace hB3 := Lib.hid hB3
      replace hs3 := Lib.hid hs3
      clear hI2 hg2 hJ hJ9 hflat hgood hall hx hy hb2
      have hubu : ∀ j, j < us.length → us.getD j 0 < 9223372036854775808 := fun j hj => by
        have e : us.getD j 0 = us[j] := by simp [List.getD, hj]
        have := hub us[j] (List.getElem_mem hj)
        rw [e]; omega
      replace hubu := Lib.hid hubu
      clear hub hgb
      go_upto_region 5 with fail
      generalize w2.alloc (.cells #[.int .i64 x0, .int .i64 x1, .int .i64 x2, .int .i64 x3, .int .i64 x4, .bool x5, .int .i64 x6, .int .i64 x7, .slice xa us.length xc, .slice xd gs.length xe, .int .i64 x10, .int .i64 x11, .int .i64 x12, .int .i64 x13] 76) = w3 at *
      have hPl : w2.heap.size < w3.heap.size := by rw [hs3.out]; omega
      have hD3 : w1.heap.size ≤ w3.heap.size := by omega
      generalize w2.heap.size = P at *
      clear hs3
      go_wp2_with fail
      refine H19.out.mono ?_
      rintro e w4 ⟨rfl, rfl⟩
      have hO5 := newOut w4
      have hB5 : (w4.alloc (.cells #[.slice none 0 0, .bool false] 39)).heap[P]? = some (.cells #[.int .i64 x0, .int .i64 x1, .int .i64 x2, .int .i64 x3, .int .i64 x4, .bool x5, .int .i64 x6, .int .i64 x7, .slice xa us.length xc, .slice xd gs.length xe, .int .i64 x10, .int .i64 x11, .int .i64 x12, .int .i64 x13] 76 (0, 0)) := alloc_keep hB3.out
      have hb5 := Lib.hid (hb3.out.alloc hb3.out.size (.cells #[.slice none 0 0, .bool false] 39))
      have hI5 := Lib.hid (hI3.out.alloc (.cells #[.slice none 0 0, .bool false] 39))
      have hx5 := Ma.ints_alloc hx3.out (.cells #[.slice none 0 0, .bool false] 39)
      have hy5 := Ma.ints_alloc hy3.out (.cells #[.slice none 0 0, .bool false] 39)
      have hfx : 0 < us.length → ∀ p, xa = some p → p.block ≠ w4.heap.size := fun hp p e => by
        obtain ⟨b, o, e2, hb, _⟩ := hx3.out.2 hp
        rw [e] at e2
        cases e2
        exact Nat.ne_of_lt hb
      have hfy : 0 < gs.length → ∀ p, xd = some p → p.block ≠ w4.heap.size := fun hp p e => by
        obtain ⟨b, o, e2, hb, _⟩ := hy3.out.2 hp
        rw [e] at e2
        cases e2
        exact Nat.ne_of_lt hb
      have HPUT := rput_any x0 x1 x2 x3 x4 x6 x7 x10 x11 x12 x13 x5 xa xd us.length xc gs.length xe (fun j => us.getD j 0) (fun j => gs.getD j 0) _ w4.heap.size hO5 (by omega) (by omega) (by omega) (by omega) (by omega) (by omega) hx5 hy5 hfx hfy (by omega) (by omega) hubu.out
      rw [list_range, list_range] at HPUT
      have hs5 : (w4.alloc (.cells #[.slice none 0 0, .bool false] 39)).heap.size = w4.heap.size + 1 := by simp
      obtain ⟨k0, k1, k2, k3, k4, k5, k6, k7, k8, k9, k10, k11, k12, k13⟩ := rbox_cells x0 x1 x2 x3 x4 x6 x7 x10 x11 x12 x13 x5 xa xd us.length xc gs.length xe (fun j => us.getD j 0) (fun j => gs.getD j 0) hB5
      replace HPUT := Lib.hid HPUT
      replace hs5 := Lib.hid hs5
      clear hO5 hB5 hx5 hy5 hfx hfy hx3 hy3 hubu H19
      go_upto_region 8 with fail
      generalize w4.alloc (.cells #[.slice none 0 0, .bool false] 39) = w5 at *
      have hO5 : w4.heap.size < w5.heap.size := by rw [hs5.out]; omega
      have hIO : I < w4.heap.size := by omega
      generalize w4.heap.size = O at *
      clear hs5
      go_wp2_with fail
      refine HPUT.out.mono ?_
      rintro e w6 ⟨rfl, v6, ho6, b6⟩
      have hI6 := Lib.hid (hI5.out.keep b6.size (fun k hk hk2 => b6.block k (by omega)))
      have hb6 := Lib.hid (hb5.out.trans (b6.mono (by have := hb3.out.size; omega)))
      have HE := Lib.hid (end_st ho6 hfw)
      clear b6 ho6 k0 k1 k2 k3 k4 k5 k6 k7 k8 k9 k10 k11 k12 k13
      go_wp2_with fail
      refine HE.out.mono ?_
      rintro e w7 hE
      rcases hE with ⟨_, a7, c7, rfl, g1, g2, g3, g4, g5, b7⟩ | ⟨hbad, _⟩
      rotate_left
      · rw [hgp] at hbad
        cases hbad
      have hI7 := hI6.out.below b7
      have hb7 := Lib.hid (hb6.out.trans (below_lee b7 hb6.out.size))
      have H21 := Lib.hid (left_r hI7.inL)
      clear b7 hI7 g2 g3 g4 g5
      have hlen : (catP (rmP x0 x1 x2 x3 x4 x6 x7 x10 x11 x12 x13 x5 us gs)).length + L'.length = n := by rw [← hll.out, hL, List.length_append]
      have hgt2 : ∀ j, j < (catP (rmP x0 x1 x2 x3 x4 x6 x7 x10 x11 x12 x13 x5 us gs)).length → F j = gtD (catP (rmP x0 x1 x2 x3 x4 x6 x7 x10 x11 x12 x13 x5 us gs)) j := fun j hj => by
        rw [hgt.out j (by omega), hL]
        simp [gtD, List.getD, List.getElem?_append, hj]
      replace hL := Lib.hid hL
      replace hgp := Lib.hid hgp
      replace hfw := Lib.hid hfw
      replace hgt2 := Lib.hid hgt2
      generalize catP (rmP x0 x1 x2 x3 x4 x6 x7 x10 x11 x12 x13 x5 us gs) = C at *
      replace g1 := Lib.hid g1
      generalize hCL : C.length = CL at *
      generalize hLL : L'.length = LL at *
      replace hCL := Lib.hid hCL
      replace hLL := Lib.hid hLL
      have e1 : IntKind.i64.wrap ((CL : Int) + (LL : Int)) = (CL : Int) + (LL : Int) := IntWalk.i64_in _ (by omega)
      have e2 : ((CL : Int) + (LL : Int) != (n : Int)) = false := by simp; omega
      have e3 : ((CL : Int) + (LL : Int) == (n : Int)) = true := by simp; omega
      have e4 : (CL : Int) + (LL : Int) = (n : Int) := by omega
      have hCn : CL ≤ n := by omega
      replace hlen := Lib.hid hlen
      replace e4 := Lib.hid e4
      clear hgt hI6 hI5 hI3
      go_wp2_with fail
      refine H21.out.mono ?_
      rintro e w8 ⟨rfl, rfl⟩
      have hb8 := HX.out _ hb7.out
      go_wp2_with fail
      clear e1 e2 e3
      replace hb8 := Lib.hid hb8
      go_loopw [46] (fun i wr => ∃ j q : Nat, j ≤ CL ∧ i = .int .i64 j ∧ wr = w8.drewN q) (fun i _ => CL - (intOf i).toNat)
      case atStart => exact ⟨0, 0, Nat.zero_le _, rfl, rfl⟩
      case round =>
        obtain ⟨j, q, hj, rfl, rfl⟩ := hrel
        by_cases hlt : j < CL
        · have hlt' : (j : Int) < CL := by omega
          have hltn : (j : Int) < n := by omega
          obtain ⟨bb, ob, rfl, hbb, hcb⟩ := g1.out.2 (by omega)
          obtain ⟨ba, oa, rfl, hba, hca⟩ := hb8.out.2 (by omega)
          have cc := hcb j hlt
          have ca := hca j (by omega)
          rw [hgt2.out j hlt] at ca
          change _ = some (Value.int .u8 (gtD C j)) at cc
          clear hcb hca
          generalize gtD C j = xj at *
          go_wp2_with fail
          go_quiet (fail)
          go_wp2_with fail
          go_roundw
          case rel => exact ⟨j + 1, q + nq, by omega, by go_num, by simp⟩
          case measure => simp [intOf]; omega
        · obtain rfl : j = CL := by omega
          have hlt' : ¬ (j : Int) < j := by omega
          go_wp2_with fail
          go_ret
          exact ⟨rfl, hb7.out.trans (below_dn _ _ _)⟩

end Go.Proofs.Ytnkgbigjpihfeaa.Kd
