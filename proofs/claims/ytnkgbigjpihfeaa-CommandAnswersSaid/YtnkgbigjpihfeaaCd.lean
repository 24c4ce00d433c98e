/- Answers decoded. -/
import Derived.Test.YtnkgbigjpihfeaaCc
import Derived.Test.YtnkgbigjpihfeaaKg
import Derived.Laws.ResultCell
set_option linter.unusedVariables false
set_option linter.unusedSimpArgs false
namespace Go.Proofs.Ytnkgbigjpihfeaa.Kd
open Go.RowKit Go.Proofs.Ytnkgbigjpihfeaa.Lib

theorem ret_ans {w : World} {g : Nat} {cs : Array Value} {v : Value} {tmps : Array Value} (hg : w.heap[g]? = some (.cells cs 63 (0, 0))) (hs : cs.size = 2) (h4 : tmps.getD 2 undef = .pointer (some ⟨g, 0, none⟩)) (h5 : tmps.getD 3 undef = v) :
    (results Try.f45 tmps).run Try.prog w = .ok (.tuple #[.agg cs, v]) w := by
  have h4' : tmps[2]?.getD undef = .pointer (some ⟨g, 0, none⟩) := by simpa using h4
  have h5' : tmps[3]?.getD undef = v := by simpa using h5
  rw [results_cell_tmp (p := 2) (u := 3) (ty := 63) rfl]
  have hi : (Try.prog.info? 63).map (·.size) = some cs.size := by rw [hs]; kernel_rfl
  simp [h4', h5', asAddr, run_loadVar_row w g 63 63 cs (0, 0) _ hg Try.underlying63 rfl hi, Result.andThen]

theorem rdN_in {L : List Int} {k : Nat} (h : k ≤ L.length) : rdN L false k = (leL (L.take k), L.drop k, false) := rdN_ok h
theorem rdN_out {L : List Int} {k : Nat} (h : L.length < k) : rdN L false k = (0, [], true) := rdN_short h
theorem ans_ok {L : List Int} (h : L.length = 9) : rdN L false 1 = (leL (L.take 1), L.drop 1, false) ∧ rdN (L.drop 1) false 8 = (leL (L.drop 1), [], false) := by
  have h1 : (L.drop 1).length = 8 := by rw [List.length_drop]; omega
  refine ⟨rdN_in (by omega), ?_⟩
  have h8 : (L.drop 1).length ≤ 8 := by omega
  rw [rdN_in (L := L.drop 1) (k := 8) (by omega), List.take_of_length_le h8, List.drop_of_length_le h8]
theorem ans_bad {L : List Int} (h : ¬ L.length = 9) : (!(rdN (rdN L false 1).2.1 (rdN L false 1).2.2 8).2.2 && decide ((rdN (rdN L false 1).2.1 (rdN L false 1).2.2 8).2.1 = [])) = false := by
  by_cases h1 : L.length < 1
  · rw [rdN_out h1]
    simp [rdN]
  · rw [rdN_in (k := 1) (by omega)]
    simp only
    have hd : (L.drop 1).length = L.length - 1 := List.length_drop
    by_cases h2 : (L.drop 1).length < 8
    · rw [rdN_out h2]
      rfl
    · rw [rdN_in (by omega)]
      have h3 : ¬ (L.drop 1).drop 8 = [] := fun e => by
        have := congrArg List.length e
        rw [List.length_drop, List.length_nil] at this
        omega
      simp only [Bool.not_false, Bool.true_and]
      exact decide_eq_false h3

/-- What decoding an answer gives. -/
def decPost (x y z : Int) (w : World) (e : Ending) (w' : World) : Prop := e = .returned (.tuple #[.agg #[.int .i64 x, .int .i64 y], .int .i64 z]) ∧ Below w.heap.size w w'

set_option maxRecDepth 100000 in
set_option maxHeartbeats 1600000 in
theorem decA (w : World) {x y z : Int} {a : Option Addr} {n c : Nat} {F : Nat → Int} (h : IntsAt w .u8 a n F) (ha : a = none → n = 0) (hn : n ≤ 140737488355328) (hF : ∀ j, j < n → 0 ≤ F j ∧ F j < 256)
    (hz : (z = 0 ∧ x = (rdN (lof n F) false 1).1 ∧ y = wrap64 (rdN (rdN (lof n F) false 1).2.1 (rdN (lof n F) false 1).2.2 8).1 ∧ (!(rdN (rdN (lof n F) false 1).2.1 (rdN (lof n F) false 1).2.2 8).2.2 && decide ((rdN (rdN (lof n F) false 1).2.1 (rdN (lof n F) false 1).2.2 8).2.1 = [])) = true) ∨
      (z = 3 ∧ x = 0 ∧ y = 0 ∧ (!(rdN (rdN (lof n F) false 1).2.1 (rdN (lof n F) false 1).2.2 8).2.2 && decide ((rdN (rdN (lof n F) false 1).2.1 (rdN (lof n F) false 1).2.2 8).2.1 = [])) = false)) :
    Calls Try.prog 45 #[.slice a n c] w fun e w' => decPost x y z w e w' := by
  replace hz := Lib.hid hz
  have hb0 : Below w.heap.size w (w.alloc (.cells #[.int .i64 0, .int .i64 0] 63)) := (Below.refl _ _).alloc (Nat.le_refl _) _
  have hx0 : (w.alloc (.cells #[.int .i64 0, .int .i64 0] 63)).heap[w.heap.size]? = some (.cells #[.int .i64 0, .int .i64 0] 63 (0, 0)) := heap_alloc_new _ _
  have hs0 : (w.alloc (.cells #[.int .i64 0, .int .i64 0] 63)).heap.size = w.heap.size + 1 := by simp
  have H16 := Lib.hid (newIn_l (c := c) (h.below hb0) ha hn hF)
  have hll : (lof n F).length = n := lof_len n F
  generalize lof n F = L at *
  clear h hF ha
  replace hb0 := Lib.hid hb0
  replace hx0 := Lib.hid hx0
  go_enter Try.func45, Try.ntmps45
  go_wp2_with fail
  generalize hwx : w.alloc (.cells #[.int .i64 0, .int .i64 0] 63) = wx at *
  replace hwx := Lib.hid hwx
  refine H16.out.mono ?_
  rintro e w1 ⟨I, rfl, hI, hIs, b1⟩
  have H20 := Lib.hid (u8_r hI)
  have hx1 := Lib.hid ((b1.block w.heap.size (by omega)).trans hx0.out)
  have hb1 := Lib.hid (hb0.out.trans (b1.mono (by omega)))
  have hIw : w.heap.size < I := by omega
  have hIl := hI.lt
  clear b1 hI
  go_wp2_with fail
  refine H20.out.mono ?_
  rintro e w2 ⟨rfl, hI2, hg2⟩
  have H32 := Lib.hid (i64_r hI2)
  have hI2l := hI2.lt
  have hx2 := Lib.hid ((hg2.block w.heap.size (by omega) (fun e => by injection e with e; omega)).trans hx1.out)
  have hb2 := Lib.hid (hb1.out.trans ((grown_below hg2 hIl).mono (by omega)))
  clear hI2 hg2
  go_wp2_with fail
  refine H32.out.mono ?_
  rintro e w3 ⟨rfl, hI3, hg3⟩
  have hI3l := hI3.lt
  have hx3 := Lib.hid ((hg3.block w.heap.size (by omega) (fun e => by injection e with e; omega)).trans hx2.out)
  have hb3 := Lib.hid (hb2.out.trans ((grown_below hg3 hI2l).mono (by omega)))
  replace hI3 := Lib.hid hI3
  clear hg3
  obtain ⟨w4, hw4⟩ : ∃ w4, w3.alloc (.cells #[.int .i64 (rdN L false 1).1, .int .i64 (wrap64 (rdN (rdN L false 1).2.1 (rdN L false 1).2.2 8).1)] 63) = w4 := ⟨_, rfl⟩
  have h34 : Below w3.heap.size w3 w4 := by rw [← hw4]; exact (Below.refl _ _).alloc (Nat.le_refl _) _
  have hx4 : w4.heap[w.heap.size]? = some (.cells #[.int .i64 0, .int .i64 0] 63 (0, 0)) := (h34.block w.heap.size (by omega)).trans hx3.out
  have hy4 : w4.heap[w3.heap.size]? = some (.cells #[.int .i64 (rdN L false 1).1, .int .i64 (wrap64 (rdN (rdN L false 1).2.1 (rdN L false 1).2.2 8).1)] 63 (0, 0)) := by rw [← hw4]; exact heap_alloc_new _ _
  have H23 := done_r (hI3.out.keep h34)
  have hb4 := Lib.hid (hb3.out.trans (h34.mono (by omega)))
  have y0 : w4.cell? ⟨w3.heap.size, 0, none⟩ = some (.int .i64 (rdN L false 1).1) := by simp [World.cell?, hy4]
  have y1 : w4.cell? ⟨w3.heap.size, 1, none⟩ = some (.int .i64 (wrap64 (rdN (rdN L false 1).2.1 (rdN L false 1).2.2 8).1)) := by simp [World.cell?, hy4]
  have z0 : w4.cell? ⟨w.heap.size, 0, none⟩ = some (.int .i64 0) := by simp [World.cell?, hx4]
  have z1 : w4.cell? ⟨w.heap.size, 1, none⟩ = some (.int .i64 0) := by simp [World.cell?, hx4]
  have f0 : w4.frozen? ⟨w.heap.size, 0, none⟩ = false := by simp [World.frozen?, hx4]
  have f1 : w4.frozen? ⟨w.heap.size, 1, none⟩ = false := by simp [World.frozen?, hx4]
  replace hw4 := Lib.hid hw4
  replace hx4 := Lib.hid hx4
  clear hy4 h34
  go_wp2_with fail
  rw [hw4.out]
  rcases hz.out with ⟨rfl, ex, ey, q⟩ | ⟨rfl, ex, ey, q⟩
  · rw [q] at H23
    replace H23 := Lib.hid H23
    replace q := Lib.hid q
    clear hz
    generalize (rdN L false 1).1 = X at *
    generalize wrap64 (rdN (rdN L false 1).2.1 (rdN L false 1).2.2 8).1 = Y at *
    refine H23.out.mono ?_
    rintro e w5 ⟨rfl, rfl⟩
    replace ex := Lib.hid ex
    replace ey := Lib.hid ey
    go_wp2_with fail
    have e1 := heap_setCell_same w5 w.heap.size 0 _ _ (.int .i64 X) hx4.out
    have e2 := heap_setCell_same _ w.heap.size 1 _ _ (.int .i64 Y) e1
    refine bodyPost_ret (ret_ans (cs := #[.int .i64 X, .int .i64 Y]) e2 rfl rfl rfl) rfl ⟨by rw [ex.out, ey.out]; rfl, ?_⟩
    exact (hb4.out.setCell (p := ⟨w.heap.size, 0, none⟩) (Nat.le_refl _) _).setCell (p := ⟨w.heap.size, 1, none⟩) (Nat.le_refl _) _
  · rw [q] at H23
    replace H23 := Lib.hid H23
    replace q := Lib.hid q
    clear hz
    generalize (rdN L false 1).1 = X at *
    generalize wrap64 (rdN (rdN L false 1).2.1 (rdN L false 1).2.2 8).1 = Y at *
    refine H23.out.mono ?_
    rintro e w5 ⟨rfl, rfl⟩
    replace ex := Lib.hid ex
    replace ey := Lib.hid ey
    go_wp2_with fail
    have e1 := heap_setCell_same w5 w.heap.size 0 _ _ (.int .i64 0) hx4.out
    have e2 := heap_setCell_same _ w.heap.size 1 _ _ (.int .i64 0) e1
    refine bodyPost_ret (ret_ans (cs := #[.int .i64 0, .int .i64 0]) e2 rfl rfl rfl) rfl ⟨by rw [ex.out, ey.out]; rfl, ?_⟩
    exact (hb4.out.setCell (p := ⟨w.heap.size, 0, none⟩) (Nat.le_refl _) _).setCell (p := ⟨w.heap.size, 1, none⟩) (Nat.le_refl _) _

end Go.Proofs.Ytnkgbigjpihfeaa.Kd
