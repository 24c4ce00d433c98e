/- rma.Take at whatever bytes. -/
import Derived.Test.YtnkgbigjpihfeaaEd
import Derived.Test.YtnkgbigjpihfeaaFb
import Derived.IntWalk
set_option linter.unusedVariables false
set_option linter.unusedSimpArgs false
namespace Go.Proofs.Ytnkgbigjpihfeaa.Kd
open Go.RowKit Go.Proofs.Ytnkgbigjpihfeaa.Lib
open Go.Proofs.Ytnkgbigjpihfeaa.Ma (alloc_keep alloc_at info3 setRow_h info76)

/-- While a return is read: its box is B, the result's is the first new one. -/
structure RT (w : World) (I B : Nat) (X : Array Value) (wr : World) : Prop where
  z : wr.heap[w.heap.size]? = some (.cells #[.int .i64 0, .int .i64 0, .int .i64 0, .int .i64 0, .int .i64 0, .bool false, .int .i64 0, .int .i64 0, .slice none 0 0, .slice none 0 0, .int .i64 0, .int .i64 0, .int .i64 0, .int .i64 0] 76 (0, 0))
  b : wr.heap[B]? = some (.cells X 76 (0, 0))
  gr : w.grownBy wr (some I)
  lt : w.heap.size < B
  il : I < w.heap.size

theorem RT.only {w w1 w2 : World} {I B : Nat} {X : Array Value} (h : RT w I B X w1) (k : Only I w1 w2) : RT w I B X w2 :=
  ⟨(k.block _ (by have := h.il; omega)).trans h.z, (k.block _ (by have := h.il; have := h.lt; omega)).trans h.b, ⟨k.os.trans h.gr.os, k.tape.trans h.gr.tape, k.output.trans h.gr.output, by rw [k.size]; exact h.gr.size, fun i hi hn => (k.block i (fun e => hn (by rw [e]))).trans (h.gr.block i hi hn)⟩, h.lt, h.il⟩
theorem RT.below {w w1 w2 : World} {I B : Nat} {X : Array Value} (h : RT w I B X w1) (k : Below w1.heap.size w1 w2) : RT w I B X w2 :=
  ⟨(k.block _ (Array.getElem?_eq_some_iff.1 h.z).1).trans h.z, (k.block _ (Array.getElem?_eq_some_iff.1 h.b).1).trans h.b, ⟨k.os.trans h.gr.os, k.tape.trans h.gr.tape, k.output.trans h.gr.output, Nat.le_trans h.gr.size k.size, fun i hi hn => (k.block i (Nat.lt_of_lt_of_le hi h.gr.size)).trans (h.gr.block i hi hn)⟩, h.lt, h.il⟩
theorem RT.grown {w w1 w2 : World} {I B : Nat} {X : Array Value} {row : Option Nat} (h : RT w I B X w1) (k : w1.grownBy w2 row) (hr : ∀ g, row = some g → B < g) : RT w I B X w2 := by
  have hl := h.lt
  have hb : ∀ i, i ≤ B → some i ≠ row := fun i hi e => by have := hr i e.symm; omega
  have hbl := (Array.getElem?_eq_some_iff.1 h.b).1
  exact ⟨(k.block _ (by omega) (hb _ (by omega))).trans h.z, (k.block _ hbl (hb _ (Nat.le_refl _))).trans h.b, ⟨k.os.trans h.gr.os, k.tape.trans h.gr.tape, k.output.trans h.gr.output, Nat.le_trans h.gr.size k.size, fun i hi hn => (k.block i (Nat.lt_of_lt_of_le hi h.gr.size) (hb i (by omega))).trans (h.gr.block i hi hn)⟩, h.lt, h.il⟩
theorem RT.set {w w1 : World} {I B : Nat} {X : Array Value} (h : RT w I B X w1) (i : Nat) (v : Value) : RT w I B (X.setIfInBounds i v) (w1.setCell ⟨B, i, none⟩ v) := by
  have hl := h.lt
  have hil := h.il
  refine ⟨(heap_setCell_other w1 ⟨B, i, none⟩ _ v (by show w.heap.size ≠ B; omega)).trans h.z, heap_setCell_same w1 B i _ _ v h.b, ⟨h.gr.os, h.gr.tape, h.gr.output, by simpa using h.gr.size, fun k hk hn => (heap_setCell_other w1 ⟨B, i, none⟩ k v (by show k ≠ B; omega)).trans (h.gr.block k hk hn)⟩, hl, hil⟩
theorem RT.cell {w w1 : World} {I B : Nat} {X : Array Value} (h : RT w I B X w1) (i : Nat) : w1.cell? ⟨B, i, none⟩ = X[i]? := by simp [World.cell?, h.b]
theorem RT.free {w w1 : World} {I B : Nat} {X : Array Value} (h : RT w I B X w1) (i : Nat) : w1.frozen? ⟨B, i, none⟩ = false := by simp [World.frozen?, h.b]
theorem RT.blt {w w1 : World} {I B : Nat} {X : Array Value} (h : RT w I B X w1) : B < w1.heap.size := (Array.getElem?_eq_some_iff.1 h.b).1
/-- The result is laid. -/
theorem RT.row {w w1 : World} {I B : Nat} {X : Array Value} (h : RT w I B X w1) (cs : Array Value) : w.grownBy (w1.setRow w.heap.size cs) (some I) :=
  ⟨h.gr.os, h.gr.tape, h.gr.output, by simpa using h.gr.size, fun k hk hn => (setRow_other w1 _ k cs (by omega)).trans (h.gr.block k hk hn)⟩


/-- Ahead of the box. -/
structure RT0 (w : World) (I : Nat) (wr : World) : Prop where
  z : wr.heap[w.heap.size]? = some (.cells #[.int .i64 0, .int .i64 0, .int .i64 0, .int .i64 0, .int .i64 0, .bool false, .int .i64 0, .int .i64 0, .slice none 0 0, .slice none 0 0, .int .i64 0, .int .i64 0, .int .i64 0, .int .i64 0] 76 (0, 0))
  gr : w.grownBy wr (some I)
  sz : wr.heap.size = w.heap.size + 1
  il : I < w.heap.size
theorem RT0.only {w w1 w2 : World} {I : Nat} (h : RT0 w I w1) (k : Only I w1 w2) : RT0 w I w2 :=
  ⟨(k.block _ (by have := h.il; omega)).trans h.z, ⟨k.os.trans h.gr.os, k.tape.trans h.gr.tape, k.output.trans h.gr.output, by rw [k.size]; exact h.gr.size, fun i hi hn => (k.block i (fun e => hn (by rw [e]))).trans (h.gr.block i hi hn)⟩, k.size.trans h.sz, h.il⟩
theorem RT0.box {w w1 : World} {I : Nat} (h : RT0 w I w1) (X : Array Value) : RT w I w1.heap.size X (w1.alloc (.cells X 76)) :=
  ⟨alloc_keep h.z, heap_alloc_new _ _, grown_trans h.gr (World.grownBy_alloc _ _ _), by have := h.sz; omega, h.il⟩

/-- What Take gives. -/
def takeR (L : List Int) (D : Nat) (w : World) (I : Nat) (e : Ending) (w' : World) : Prop :=
  ∃ (x0 x1 x2 x3 x4 x6 x7 x10 x11 x12 x13 : Int) (x5 : Bool) (us gs : List Int) (L' : List Int) (bad : Bool), InD w' I L' bad D ∧ w.grownBy w' (some I) ∧
    JM L (rmI x0 x1 x2 x3 x4 x6 x7 x10 x11 x12 x13 x5 us gs) L' bad ∧ (∃ L9 b9, JM L (rm9 x0 x1 x2 x3 x4 x6 x7 x5 (us.length : Int)) L9 b9) ∧ us.length = gs.length ∧ us.length ≤ 200 ∧ (∀ x ∈ us, 0 ≤ x ∧ x < 256) ∧ (∀ x ∈ gs, -1 ≤ x ∧ x < 255) ∧
    (0 ≤ x0 ∧ x0 < 256) ∧ (0 ≤ x1 ∧ x1 < 256) ∧ (0 ≤ x2 ∧ x2 < 256) ∧ (0 ≤ x3 ∧ x3 < 65536) ∧ (-1 ≤ x4 ∧ x4 < 65535) ∧ (0 ≤ x6 ∧ x6 < 256) ∧ (0 ≤ x7 ∧ x7 < 4294967296) ∧
    (∀ x ∈ [x10, x11, x12, x13], -9223372036854775808 ≤ x ∧ x < 9223372036854775808) ∧
    ((bad = true ∧ e = .returned (.agg #[.int .i64 0, .int .i64 0, .int .i64 0, .int .i64 0, .int .i64 0, .bool false, .int .i64 0, .int .i64 0, .slice none 0 0, .slice none 0 0, .int .i64 0, .int .i64 0, .int .i64 0, .int .i64 0])) ∨
     (bad = false ∧ ∃ (xa xd : Option Addr) (xc xe : Nat), e = .returned (.agg #[.int .i64 x0, .int .i64 x1, .int .i64 x2, .int .i64 x3, .int .i64 x4, .bool x5, .int .i64 x6, .int .i64 x7, .slice xa us.length xc, .slice xd gs.length xe, .int .i64 x10, .int .i64 x11, .int .i64 x12, .int .i64 x13]) ∧ IntsAt w' .i64 xa us.length (fun j => us.getD j 0) ∧ IntsAt w' .i64 xd gs.length (fun j => gs.getD j 0) ∧
       (xa = none → us.length = 0) ∧ (xd = none → gs.length = 0) ∧ (∀ p, xa = some p → w.heap.size ≤ p.block) ∧ (∀ p, xd = some p → w.heap.size ≤ p.block)))

theorem wrap64_bd (x : Int) : -9223372036854775808 ≤ wrap64 x ∧ wrap64 x < 9223372036854775808 := by unfold wrap64; omega
theorem wd8_wrap {x : Int} (h0 : 0 ≤ x) (h1 : x < 18446744073709551616) : wd8 (wrap64 x) = x := by unfold wd8 wrap64; omega
theorem rd64 {L : List Int} {b : Bool} (h : okB L) : 0 ≤ (rdN L b 8).1 ∧ (rdN L b 8).1 < 18446744073709551616 := by have := rdN_lt (bad := b) (k := 8) h; rwa [p8] at this
theorem rdm {L : List Int} {b : Bool} (h : okB L) : 0 ≤ (rdM L b 200).1 ∧ (rdM L b 200).1 ≤ 200 := by
  have := rd16 (b := b) h
  unfold rdM
  split
  · exact ⟨by decide, by decide⟩
  · omega

/-- Ints stay where another row grows. -/
theorem ints_row {w w' : World} {row : Option Nat} {k : IntKind} {a : Option Addr} {n : Nat} {F : Nat → Int} (h : IntsAt w k a n F) (hg : w.grownBy w' row) (hne : ∀ p, a = some p → row = some p.block → False) : IntsAt w' k a n F := by
  refine ⟨h.1, fun hp => ?_⟩
  obtain ⟨b, off, rfl, hb, hc⟩ := h.2 hp
  exact ⟨b, off, rfl, Nat.lt_of_lt_of_le hb hg.size, fun j hj => (World.cell?_of_block (a := ⟨b, off + j, none⟩) (hg.block b hb (fun e => hne _ rfl e.symm))).trans (hc j hj)⟩

set_option maxRecDepth 100000 in
set_option maxHeartbeats 16000000 in
theorem take_any {w : World} {I D : Nat} {L0 : List Int} (h : InD w I L0 false D) (hD : D ≤ w.heap.size) :
    Calls Try.prog 56 #[.pointer (some ⟨I, 0, none⟩)] w fun e w' => takeR L0 D w I e w' := by
  have hIl := h.lt
  have hI0' := h.alloc (.cells #[.int .i64 0, .int .i64 0, .int .i64 0, .int .i64 0, .int .i64 0, .bool false, .int .i64 0, .int .i64 0, .slice none 0 0, .slice none 0 0, .int .i64 0, .int .i64 0, .int .i64 0, .int .i64 0] 76)
  have hJ0' := JM.start L0
  have hR0' : RT0 w I (w.alloc (.cells #[.int .i64 0, .int .i64 0, .int .i64 0, .int .i64 0, .int .i64 0, .bool false, .int .i64 0, .int .i64 0, .slice none 0 0, .slice none 0 0, .int .i64 0, .int .i64 0, .int .i64 0, .int .i64 0] 76)) := ⟨heap_alloc_new _ _, World.grownBy_alloc _ _ _, by simp, hIl⟩
  obtain ⟨b0, hb0⟩ : ∃ b0, b0 = false := ⟨_, rfl⟩
  have hI0 : Hid (InD (w.alloc (.cells #[.int .i64 0, .int .i64 0, .int .i64 0, .int .i64 0, .int .i64 0, .bool false, .int .i64 0, .int .i64 0, .slice none 0 0, .slice none 0 0, .int .i64 0, .int .i64 0, .int .i64 0, .int .i64 0] 76)) I L0 b0 D) := Lib.hid (by rw [hb0]; exact hI0')
  have hJ0 : Hid (JM L0 [] L0 b0) := Lib.hid (by rw [hb0]; exact hJ0')
  have hR0 := Lib.hid hR0'
  replace hb0 := Lib.hid hb0
  clear h hI0' hJ0' hR0'
  go_enter Try.func56, Try.ntmps56
  go_wp2_with fail
  generalize w.alloc (.cells #[.int .i64 0, .int .i64 0, .int .i64 0, .int .i64 0, .int .i64 0, .bool false, .int .i64 0, .int .i64 0, .slice none 0 0, .slice none 0 0, .int .i64 0, .int .i64 0, .int .i64 0, .int .i64 0] 76) = w0 at *
  have hJ1 := Lib.hid (hJ0.out.num hI0.out.okB 1 255 (by decide))
  have hd1 := rd8 (b := b0) hI0.out.okB
  refine (u8_d hI0.out).mono ?_
  rintro e w1 ⟨rfl, hq1, ho1⟩
  generalize rdN L0 b0 1 = q1 at *
  obtain ⟨y1, L1, b1⟩ := q1
  dsimp only at hJ1 hq1 hd1
  obtain ⟨lo1, hi1⟩ := hd1
  have hI1 := Lib.hid hq1
  have hR1 := Lib.hid (hR0.out.only ho1)
  clear hq1 ho1 hJ0 hI0 hR0
  go_wp2_with fail
  have hJ2 := Lib.hid (hJ1.out.num hI1.out.okB 1 255 (by decide))
  have hd2 := rd8 (b := b1) hI1.out.okB
  refine (u8_d hI1.out).mono ?_
  rintro e w2 ⟨rfl, hq2, ho2⟩
  generalize rdN L1 b1 1 = q2 at *
  obtain ⟨y2, L2, b2⟩ := q2
  dsimp only at hJ2 hq2 hd2
  obtain ⟨lo2, hi2⟩ := hd2
  have hI2 := Lib.hid hq2
  have hR2 := Lib.hid (hR1.out.only ho2)
  clear hq2 ho2 hJ1 hI1 hR1
  go_wp2_with fail
  have hJ3 := Lib.hid (hJ2.out.num hI2.out.okB 1 255 (by decide))
  have hd3 := rd8 (b := b2) hI2.out.okB
  refine (u8_d hI2.out).mono ?_
  rintro e w3 ⟨rfl, hq3, ho3⟩
  generalize rdN L2 b2 1 = q3 at *
  obtain ⟨y3, L3, b3⟩ := q3
  dsimp only at hJ3 hq3 hd3
  obtain ⟨lo3, hi3⟩ := hd3
  have hI3 := Lib.hid hq3
  have hR3 := Lib.hid (hR2.out.only ho3)
  clear hq3 ho3 hJ2 hI2 hR2
  go_wp2_with fail
  have hJ4 := Lib.hid (hJ3.out.num hI3.out.okB 2 65535 (by decide))
  have hd4 := rd16 (b := b3) hI3.out.okB
  refine (u16_d hI3.out).mono ?_
  rintro e w4 ⟨rfl, hq4, ho4⟩
  generalize rdN L3 b3 2 = q4 at *
  obtain ⟨y4, L4, b4⟩ := q4
  dsimp only at hJ4 hq4 hd4
  obtain ⟨lo4, hi4⟩ := hd4
  have hI4 := Lib.hid hq4
  have hR4 := Lib.hid (hR3.out.only ho4)
  clear hq4 ho4 hJ3 hI3 hR3
  go_wp2_with fail
  have hJ5 := Lib.hid (hJ4.out.num hI4.out.okB 2 65535 (by decide))
  have hd5 := rd16 (b := b4) hI4.out.okB
  refine (u16_d hI4.out).mono ?_
  rintro e w5 ⟨rfl, hq5, ho5⟩
  generalize rdN L4 b4 2 = q5 at *
  obtain ⟨y5, L5, b5⟩ := q5
  dsimp only at hJ5 hq5 hd5
  obtain ⟨lo5, hi5⟩ := hd5
  have hI5 := Lib.hid hq5
  have hR5 := Lib.hid (hR4.out.only ho5)
  clear hq5 ho5 hJ4 hI4 hR4
  go_wp2_with fail
  have hJ6 := Lib.hid (hJ5.out.flag hI5.out.okB)
  refine (flag_d hI5.out).mono ?_
  rintro e w6 ⟨rfl, hq6, ho6⟩
  generalize rdF L5 b5 = q6 at *
  obtain ⟨y6, L6, b6⟩ := q6
  dsimp only at hJ6 hq6
  have hI6 := Lib.hid hq6
  have hR6 := Lib.hid (hR5.out.only ho6)
  clear hq6 ho6 hJ5 hI5 hR5
  go_wp2_with fail
  have hJ7 := Lib.hid (hJ6.out.num hI6.out.okB 1 255 (by decide))
  have hd7 := rd8 (b := b6) hI6.out.okB
  refine (u8_d hI6.out).mono ?_
  rintro e w7 ⟨rfl, hq7, ho7⟩
  generalize rdN L6 b6 1 = q7 at *
  obtain ⟨y7, L7, b7⟩ := q7
  dsimp only at hJ7 hq7 hd7
  obtain ⟨lo7, hi7⟩ := hd7
  have hI7 := Lib.hid hq7
  have hR7 := Lib.hid (hR6.out.only ho7)
  clear hq7 ho7 hJ6 hI6 hR6
  go_wp2_with fail
  have hJ8 := Lib.hid (hJ7.out.num hI7.out.okB 4 4294967295 (by decide))
  have hd8 := rd32 (b := b7) hI7.out.okB
  refine (u32_d hI7.out).mono ?_
  rintro e w8 ⟨rfl, hq8, ho8⟩
  generalize rdN L7 b7 4 = q8 at *
  obtain ⟨y8, L8, b8⟩ := q8
  dsimp only at hJ8 hq8 hd8
  obtain ⟨lo8, hi8⟩ := hd8
  have hI8 := Lib.hid hq8
  have hR8 := Lib.hid (hR7.out.only ho8)
  clear hq8 ho8 hJ7 hI7 hR7
  go_upto_region 2 with fail
  have hR8' := Lib.hid (hR8.out.box #[.int .i64 y1, .int .i64 y2, .int .i64 y3, .int .i64 y4, .int .i64 (y5 - 1), .bool y6, .int .i64 y7, .int .i64 y8, .slice none 0 0, .slice none 0 0, .int .i64 0, .int .i64 0, .int .i64 0, .int .i64 0])
  have hI8' := Lib.hid (hI8.out.alloc (.cells #[.int .i64 y1, .int .i64 y2, .int .i64 y3, .int .i64 y4, .int .i64 (y5 - 1), .bool y6, .int .i64 y7, .int .i64 y8, .slice none 0 0, .slice none 0 0, .int .i64 0, .int .i64 0, .int .i64 0, .int .i64 0] 76))
  have hsB := hR8.out.sz
  clear hR8 hI8
  obtain ⟨hR8, _⟩ : Hid (RT w I w8.heap.size #[.int .i64 y1, .int .i64 y2, .int .i64 y3, .int .i64 y4, .int .i64 (y5 - 1), .bool y6, .int .i64 y7, .int .i64 y8, .slice none 0 0, .slice none 0 0, .int .i64 0, .int .i64 0, .int .i64 0, .int .i64 0] (w8.alloc (.cells #[.int .i64 y1, .int .i64 y2, .int .i64 y3, .int .i64 y4, .int .i64 (y5 - 1), .bool y6, .int .i64 y7, .int .i64 y8, .slice none 0 0, .slice none 0 0, .int .i64 0, .int .i64 0, .int .i64 0, .int .i64 0] 76))) ∧ True := ⟨hR8', trivial⟩
  obtain ⟨hI8, _⟩ : Hid (InD (w8.alloc (.cells #[.int .i64 y1, .int .i64 y2, .int .i64 y3, .int .i64 y4, .int .i64 (y5 - 1), .bool y6, .int .i64 y7, .int .i64 y8, .slice none 0 0, .slice none 0 0, .int .i64 0, .int .i64 0, .int .i64 0, .int .i64 0] 76)) I L8 b8 D) ∧ True := ⟨hI8', trivial⟩
  clear hR8' hI8'
  have hBI : w8.heap.size ≠ I := by omega
  have hIB : I < w8.heap.size := by omega
  have hDB : D ≤ w8.heap.size := by omega
  have hZI : w.heap.size ≠ I := by omega
  have hZB : w.heap.size < w8.heap.size := by omega
  have hDZ := hD
  clear hsB
  generalize w8.alloc (.cells #[.int .i64 y1, .int .i64 y2, .int .i64 y3, .int .i64 y4, .int .i64 (y5 - 1), .bool y6, .int .i64 y7, .int .i64 y8, .slice none 0 0, .slice none 0 0, .int .i64 0, .int .i64 0, .int .i64 0, .int .i64 0] 76) = w8b at *
  generalize w8.heap.size = B at *
  go_wp2_with fail
  have hJ9 := Lib.hid (hJ8.out.most hI8.out.okB 200 (by decide))
  have hd9 := rdm (b := b8) hI8.out.okB
  refine (most_d hI8.out 200).mono ?_
  rintro e w9 ⟨rfl, hq9, ho9⟩
  generalize rdM L8 b8 200 = q9 at *
  obtain ⟨y9, L9, b9⟩ := q9
  dsimp only at hJ9 hq9 hd9
  obtain ⟨lo9, hi9⟩ := hd9
  have hI9 := Lib.hid hq9
  have hR9 := Lib.hid (hR8.out.only ho9)
  clear hq9 ho9 hJ8 hI8 hR8
  obtain ⟨nb, hnb⟩ : ∃ nb : Nat, y9 = (nb : Int) := ⟨y9.toNat, by omega⟩
  subst hnb
  have hnb200 : nb ≤ 200 := by omega
  clear lo9 hi9
  have hJc := hJ9
  go_wp2_with fail
  go_loopw [26] (fun i wr => ∃ (j : Nat) (us : List Int) (v : Value) (Lj : List Int) (bj : Bool), j ≤ nb ∧ i = .int .i64 j ∧ Hid (us.length = j) ∧ Hid (∀ x ∈ us, 0 ≤ x ∧ x < 256) ∧ Hid (RT w I B #[.int .i64 y1, .int .i64 y2, .int .i64 y3, .int .i64 y4, .int .i64 (y5 - 1), .bool y6, .int .i64 y7, .int .i64 y8, v, .slice none 0 0, .int .i64 0, .int .i64 0, .int .i64 0, .int .i64 0] wr) ∧ Hid (wr.ownsRow (B + 1) 3 1 v j (us.map (Value.int .i64))) ∧ Hid (InD wr I Lj bj D) ∧ Hid (JM L0 (([] ++ [(y1, 1, 255)] ++ [(y2, 1, 255)] ++ [(y3, 1, 255)] ++ [(y4, 2, 65535)] ++ [(y5, 2, 65535)] ++ [(fl y6, 1, 1)] ++ [(y7, 1, 255)] ++ [(y8, 4, 4294967295)] ++ [((nb : Int), 2, 200)]) ++ us.map (fun x => (x, 1, 255))) Lj bj)) (fun i _ => nb - (intOf i).toNat)
  case atStart => exact ⟨0, [], _, L9, b9, Nat.zero_le _, rfl, Lib.hid rfl, Lib.hid (by simp), hR9, Lib.hid (World.ownsRow_nil _ _ _ _), hI9, Lib.hid (by simpa using hJ9.out)⟩
  case round =>
    clear hR9 hI9 hJ9
    obtain ⟨j, us, v, Lj, bj, hj, rfl, hul, hub, hR, hown, hI, hJ⟩ := hrel
    by_cases hlt : j < nb
    · have hlt' : (j : Int) < nb := by omega
      obtain ⟨i3, hi, hz0, hz1, hz2⟩ := info_parts info3
      have cB : wr.cell? ⟨B, 8, none⟩ = some v := (hR.out.cell 8).trans rfl
      have hJn := Lib.hid (hJ.out.num hI.out.okB 1 255 (by decide))
      have hdn := rd8 (b := bj) hI.out.okB
      have HC := Lib.hid (u8_d (hI.out.below (Below.drew (Below.refl _ wr))))
      have hRd := Lib.hid (hR.out.below (Below.drew (Below.refl _ wr)))
      have hod := Lib.hid (show wr.drew.ownsRow (B + 1) 3 1 v j (us.map (Value.int .i64)) from hown.out)
      generalize rdN Lj bj 1 = qn at *
      obtain ⟨yn, Ln, bn⟩ := qn
      dsimp only at hJn hdn HC
      obtain ⟨lon, hin⟩ := hdn
      clear hJ hI hR hown
      have hvb := Lib.hid hod.out.lt
      go_wp2_with fail
      go_region_law (first
        | (refine step_append_lies _ rfl _ _ 51 rfl (B + 1) 3 i3 (.int .i64 0) 1 8 Try.underlying51 hi hz0 hz1 hz2 rfl (by decide) v j (us.map (Value.int .i64)) rfl (hon2.out.alloc _) ⟨wn.heap.size, 0, none⟩ 1 1 [.int .i64 yn] rfl rfl (World.news_of_block (heap_alloc_new _ _)) (fun x hx => (by simp at hx; subst hx; rfl)) (by omega) (by unfold maxLen; omega) (by omega) (by have := hRn.out.blt; simp; omega) _ rfl ?_; intro g cap w5 hown5 hgrow hat hlg; have hR5 := (hRn.out.below ((Below.refl _ _).alloc (Nat.le_refl _) (.cells #[.int .i64 yn] 3))).grown hgrow (fun g' e => (by have := (hvb.out g' e).1; omega)); have hI5 := (hqn.out.alloc (.cells #[.int .i64 yn] 3)).keep hgrow.size (fun k hk hk2 => hgrow.block k hk (fun e => (by have := (hvb.out k e.symm).1; omega))); have cB5 : w5.cell? ⟨B, 8, none⟩ = some v := (hR5.cell 8).trans rfl; have fB5 : w5.frozen? ⟨B, 8, none⟩ = false := hR5.free 8; replace hR5 := Lib.hid hR5; replace hI5 := Lib.hid hI5; replace hown5 := Lib.hid hown5; clear hgrow hat)
        | (go_simp; go_at_call 20; refine HC.out.mono ?_; rintro e wn ⟨rfl, hqn, hon⟩; have hRn := hRd.out.only hon; have cBn : wn.cell? ⟨B, 8, none⟩ = some v := (hRn.cell 8).trans rfl; have cBa : (wn.alloc (.cells #[.int .i64 yn] 3)).cell? ⟨B, 8, none⟩ = some v := ((hRn.below ((Below.refl _ _).alloc (Nat.le_refl _) (.cells #[.int .i64 yn] 3))).cell 8).trans rfl; have hBl := hRn.blt; have hBe : ¬ B = wn.heap.size := Nat.ne_of_lt hBl; have hon2 := Lib.hid (hod.out.kept (row := some I) ⟨hon.os, hon.tape, hon.output, Nat.le_of_eq hon.size.symm, fun k _ hn => hon.block k (fun e => hn (by rw [e]))⟩ (Or.inr (fun e => (by have := (hvb.out I e).1; omega)))); replace hRn := Lib.hid hRn; replace hqn := Lib.hid hqn; clear hon))
      all_goals
        have hR6 : Hid (RT w I B #[.int .i64 y1, .int .i64 y2, .int .i64 y3, .int .i64 y4, .int .i64 (y5 - 1), .bool y6, .int .i64 y7, .int .i64 y8, .slice (some ⟨g, 0, none⟩) (j + 1) cap, .slice none 0 0, .int .i64 0, .int .i64 0, .int .i64 0, .int .i64 0] (w5.setCell ⟨B, 8, none⟩ (.slice (some ⟨g, 0, none⟩) (j + 1) cap))) := Lib.hid (hR5.out.set 8 _)
        have hI6 := Lib.hid (hI5.out.setCell hBI hDB 8 (.slice (some ⟨g, 0, none⟩) (j + 1) cap))
        have hgB := (hown5.out.lt g rfl).1
        have hown6 : (w5.setCell ⟨B, 8, none⟩ (.slice (some ⟨g, 0, none⟩) (j + 1) cap)).ownsRow (B + 1) 3 1 (.slice (some ⟨g, 0, none⟩) (j + 1) cap) (j + 1) ((us ++ [yn]).map (Value.int .i64)) := by
          have := hown5.out.kept (row := some B) (w' := w5.setCell ⟨B, 8, none⟩ (.slice (some ⟨g, 0, none⟩) (j + 1) cap)) ⟨rfl, rfl, rfl, by simp, fun k _ hn => heap_setCell_other w5 ⟨B, 8, none⟩ k _ (fun e => hn (by rw [e]))⟩ (Or.inr (fun e => by have e : g = B := (by simpa [Value.ownBlock] using e); omega))
          simpa using this
        replace hown6 := Lib.hid hown6
        have hJ6 : Hid (JM L0 (([] ++ [(y1, 1, 255)] ++ [(y2, 1, 255)] ++ [(y3, 1, 255)] ++ [(y4, 2, 65535)] ++ [(y5, 2, 65535)] ++ [(fl y6, 1, 1)] ++ [(y7, 1, 255)] ++ [(y8, 4, 4294967295)] ++ [((nb : Int), 2, 200)]) ++ (us ++ [yn]).map (fun x => (x, 1, 255))) Ln bn) := Lib.hid (by
          have := hJn.out
          simpa using this)
        clear hR5 hI5 hown5 hgB cB cB5 fB5
        have hmem6 : Hid (∀ x ∈ us ++ [yn], 0 ≤ x ∧ x < 256) := Lib.hid (by
          intro x hx
          rcases List.mem_append.1 hx with e | e
          · exact hub.out x e
          · rw [List.mem_singleton.1 e]; exact ⟨lon, hin⟩)
        have hul6 : Hid ((us ++ [yn]).length = j + 1) := Lib.hid (by simp [hul.out])
        go_wp2_with fail
        go_roundw
        case rel => exact ⟨j + 1, us ++ [yn], _, Ln, bn, by omega, by go_num, hul6, hmem6, hR6, hown6, hI6, hJ6⟩
        case measure => simp [intOf]; omega
    · obtain rfl : j = nb := by omega
      have hlt' : ¬ (j : Int) < j := by omega
      have hmapF : us.map (Value.int .i64) = ((List.range j).map (fun i => us.getD i 0)).map (Value.int .i64) := by
        apply List.ext_getElem
        · simp [hul.out]
        · intro i h1 h2
          simp at h1
          simp [List.getD, h1]
      rw [hmapF] at hown
      clear hmapF
      obtain ⟨oa, oc, rfl, hoi, hon, hog, hoc⟩ := Ma.own_ints hown.out
      have fI : Hid (∀ p, oa = some p → I < p.block) := Lib.hid (fun p e => by have := hog p e; omega)
      have fB : Hid (∀ p, oa = some p → B < p.block) := Lib.hid (fun p e => by have := hog p e; omega)
      have fZ : Hid (∀ p, oa = some p → w.heap.size < p.block) := Lib.hid (fun p e => by have := hog p e; omega)
      have hol := hown.out.lt
      have fU : Hid (∀ p, oa = some p → p.block < wr.heap.size) := Lib.hid (fun p e => by subst e; exact (hol p.block rfl).2)
      have hii := Lib.hid hoi
      have hon' := Lib.hid hon
      clear hoi hon hog hoc hown hol
      have hRU := hR.out.blt
      generalize hU : wr.heap.size = U at *
      replace hU := Lib.hid hU
      go_wp2_with fail
      go_loopw [37] (fun i wr => ∃ (i2 : Nat) (gs : List Int) (v : Value) (Lj : List Int) (bj : Bool), i2 ≤ j ∧ i = .int .i64 i2 ∧ Hid (gs.length = i2) ∧ Hid (∀ x ∈ gs, -1 ≤ x ∧ x < 255) ∧ Hid (RT w I B #[.int .i64 y1, .int .i64 y2, .int .i64 y3, .int .i64 y4, .int .i64 (y5 - 1), .bool y6, .int .i64 y7, .int .i64 y8, .slice oa j oc, v, .int .i64 0, .int .i64 0, .int .i64 0, .int .i64 0] wr) ∧ Hid (wr.ownsRow U 3 1 v i2 (gs.map (Value.int .i64))) ∧ Hid (InD wr I Lj bj D) ∧ Hid (JM L0 (([] ++ [(y1, 1, 255)] ++ [(y2, 1, 255)] ++ [(y3, 1, 255)] ++ [(y4, 2, 65535)] ++ [(y5, 2, 65535)] ++ [(fl y6, 1, 1)] ++ [(y7, 1, 255)] ++ [(y8, 4, 4294967295)] ++ [((j : Int), 2, 200)]) ++ us.map (fun x => (x, 1, 255)) ++ gs.map (fun x => (x + 1, 1, 255))) Lj bj) ∧ Hid (IntsAt wr .i64 oa j (fun i => us.getD i 0)) ∧ Hid (U ≤ wr.heap.size)) (fun i _ => j - (intOf i).toNat)
      case atStart => exact ⟨0, [], _, Lj, bj, Nat.zero_le _, rfl, Lib.hid rfl, Lib.hid (by simp), hR, Lib.hid (World.ownsRow_nil _ _ _ _), hI, Lib.hid (by simpa using hJ.out), hii, Lib.hid (Nat.le_of_eq hU.out.symm)⟩
      case round =>
        clear hR hI hJ hii hU
        obtain ⟨i2, gs, v, Lj, bj, hik2, rfl, hgl, hgb, hR, hown, hI, hJ, hii, hUs⟩ := hrel
        by_cases hlt2 : i2 < j
        · have hlt2' : (i2 : Int) < j := by omega
          obtain ⟨i3, hi, hz0, hz1, hz2⟩ := info_parts info3
          have cB : wr.cell? ⟨B, 9, none⟩ = some v := (hR.out.cell 9).trans rfl
          have hJn := Lib.hid (hJ.out.num hI.out.okB 1 255 (by decide))
          have hdn := rd8 (b := bj) hI.out.okB
          have HC := Lib.hid (u8_d (hI.out.below (Below.drew (Below.refl _ wr))))
          have hRd := Lib.hid (hR.out.below (Below.drew (Below.refl _ wr)))
          have hod := Lib.hid (show wr.drew.ownsRow U 3 1 v i2 (gs.map (Value.int .i64)) from hown.out)
          have hiid := Lib.hid (hii.out.below (Below.drew (Below.refl _ wr)))
          generalize rdN Lj bj 1 = qn at *
          obtain ⟨yn, Ln, bn⟩ := qn
          dsimp only at hJn hdn HC
          obtain ⟨lon, hin⟩ := hdn
          have hUd := Lib.hid (show U ≤ wr.drew.heap.size from hUs.out)
          have hws1 : IntKind.i64.wrap (yn - 1) = yn - 1 := IntWalk.i64_in _ (by omega)
          clear hJ hI hR hown hii hUs
          have hvb := Lib.hid hod.out.lt
          go_wp2_with fail
          go_region_law (first
            | (refine step_append_lies _ rfl _ _ 51 rfl U 3 i3 (.int .i64 0) 1 8 Try.underlying51 hi hz0 hz1 hz2 rfl (by decide) v i2 (gs.map (Value.int .i64)) rfl (hon2.out.alloc _) ⟨wn.heap.size, 0, none⟩ 1 1 [.int .i64 (yn - 1)] rfl rfl (World.news_of_block (heap_alloc_new _ _)) (fun x hx => (by simp at hx; subst hx; rfl)) (by omega) (by unfold maxLen; omega) (by omega) (by have := hUn.out; simp; omega) _ rfl ?_; intro g cap w5 hown5 hgrow hat hlg; have hR5 := (hRn.out.below ((Below.refl _ _).alloc (Nat.le_refl _) (.cells #[.int .i64 (yn - 1)] 3))).grown hgrow (fun g' e => (by have := (hvb.out g' e).1; omega)); have hI5 := (hqn.out.alloc (.cells #[.int .i64 (yn - 1)] 3)).keep hgrow.size (fun k hk hk2 => hgrow.block k hk (fun e => (by have := (hvb.out k e.symm).1; omega))); have hii5 := ints_row (Ma.ints_alloc hiin.out (.cells #[.int .i64 (yn - 1)] 3)) hgrow (fun p e hr => (by have := (hvb.out _ hr).1; have := fU.out p e; omega)); have hU5 : U ≤ w5.heap.size := Nat.le_trans hUn.out (Nat.le_trans (by simp) hgrow.size); have cB5 : w5.cell? ⟨B, 9, none⟩ = some v := (hR5.cell 9).trans rfl; have fB5 : w5.frozen? ⟨B, 9, none⟩ = false := hR5.free 9; replace hR5 := Lib.hid hR5; replace hI5 := Lib.hid hI5; replace hown5 := Lib.hid hown5; replace hii5 := Lib.hid hii5; replace hU5 := Lib.hid hU5; clear hgrow hat)
            | (go_simp; go_at_call 20; refine HC.out.mono ?_; rintro e wn ⟨rfl, hqn, hon⟩; have hRn := hRd.out.only hon; have cBn : wn.cell? ⟨B, 9, none⟩ = some v := (hRn.cell 9).trans rfl; have cBa : (wn.alloc (.cells #[.int .i64 (yn - 1)] 3)).cell? ⟨B, 9, none⟩ = some v := ((hRn.below ((Below.refl _ _).alloc (Nat.le_refl _) (.cells #[.int .i64 (yn - 1)] 3))).cell 9).trans rfl; have hBl := hRn.blt; have hBe : ¬ B = wn.heap.size := Nat.ne_of_lt hBl; have hon2 := Lib.hid (hod.out.kept (row := some I) ⟨hon.os, hon.tape, hon.output, Nat.le_of_eq hon.size.symm, fun k _ hn => hon.block k (fun e => hn (by rw [e]))⟩ (Or.inr (fun e => (by have := (hvb.out I e).1; omega)))); have hiin := Lib.hid (ints_only hiid.out hon fI.out); have hUn := Lib.hid (show U ≤ wn.heap.size from (by rw [hon.size]; exact hUd.out)); replace hRn := Lib.hid hRn; replace hqn := Lib.hid hqn; clear hon))
          all_goals
            have hR6 : Hid (RT w I B #[.int .i64 y1, .int .i64 y2, .int .i64 y3, .int .i64 y4, .int .i64 (y5 - 1), .bool y6, .int .i64 y7, .int .i64 y8, .slice oa j oc, .slice (some ⟨g, 0, none⟩) (i2 + 1) cap, .int .i64 0, .int .i64 0, .int .i64 0, .int .i64 0] (w5.setCell ⟨B, 9, none⟩ (.slice (some ⟨g, 0, none⟩) (i2 + 1) cap))) := Lib.hid (hR5.out.set 9 _)
            have hI6 := Lib.hid (hI5.out.setCell hBI hDB 9 (.slice (some ⟨g, 0, none⟩) (i2 + 1) cap))
            have hii6 := Lib.hid (Ma.ints_setcell hii5.out fB.out 9 (.slice (some ⟨g, 0, none⟩) (i2 + 1) cap))
            have hU6 : Hid (U ≤ (w5.setCell ⟨B, 9, none⟩ (.slice (some ⟨g, 0, none⟩) (i2 + 1) cap)).heap.size) := Lib.hid (by simpa using hU5.out)
            have hgB := (hown5.out.lt g rfl).1
            have hown6 : (w5.setCell ⟨B, 9, none⟩ (.slice (some ⟨g, 0, none⟩) (i2 + 1) cap)).ownsRow U 3 1 (.slice (some ⟨g, 0, none⟩) (i2 + 1) cap) (i2 + 1) ((gs ++ [yn - 1]).map (Value.int .i64)) := by
              have := hown5.out.kept (row := some B) (w' := w5.setCell ⟨B, 9, none⟩ (.slice (some ⟨g, 0, none⟩) (i2 + 1) cap)) ⟨rfl, rfl, rfl, by simp, fun k _ hn => heap_setCell_other w5 ⟨B, 9, none⟩ k _ (fun e => hn (by rw [e]))⟩ (Or.inr (fun e => by have e : g = B := (by simpa [Value.ownBlock] using e); omega))
              simpa using this
            replace hown6 := Lib.hid hown6
            have hJ6 : Hid (JM L0 (([] ++ [(y1, 1, 255)] ++ [(y2, 1, 255)] ++ [(y3, 1, 255)] ++ [(y4, 2, 65535)] ++ [(y5, 2, 65535)] ++ [(fl y6, 1, 1)] ++ [(y7, 1, 255)] ++ [(y8, 4, 4294967295)] ++ [((j : Int), 2, 200)]) ++ us.map (fun x => (x, 1, 255)) ++ (gs ++ [yn - 1]).map (fun x => (x + 1, 1, 255))) Ln bn) := Lib.hid (by
              have := hJn.out
              simpa using this)
            clear hR5 hI5 hown5 hgB cB cB5 fB5 hii5 hU5 hws1
            have hmem6 : Hid (∀ x ∈ gs ++ [yn - 1], -1 ≤ x ∧ x < 255) := Lib.hid (by
              intro x hx
              rcases List.mem_append.1 hx with e | e
              · exact hgb.out x e
              · rw [List.mem_singleton.1 e]; exact ⟨by omega, by omega⟩)
            have hul6 : Hid ((gs ++ [yn - 1]).length = i2 + 1) := Lib.hid (by simp [hgl.out])
            go_wp2_with fail
            go_roundw
            case rel => exact ⟨i2 + 1, gs ++ [yn - 1], _, Ln, bn, by omega, by go_num, hul6, hmem6, hR6, hown6, hI6, hJ6, hii6, hU6⟩
            case measure => simp [intOf]; omega
        · obtain rfl : i2 = j := by omega
          have hlt2' : ¬ (i2 : Int) < i2 := by omega
          have hmapG : gs.map (Value.int .i64) = ((List.range i2).map (fun i => gs.getD i 0)).map (Value.int .i64) := by
            apply List.ext_getElem
            · simp [hgl.out]
            · intro i h1 h2
              simp at h1
              simp [List.getD, h1]
          rw [hmapG] at hown
          clear hmapG
          obtain ⟨ga, gc, rfl, hgi, hgn, hgg, hgc⟩ := Ma.own_ints hown.out
          have gI : Hid (∀ p, ga = some p → I < p.block) := Lib.hid (fun p e => by have := hgg p e; omega)
          have gB : Hid (∀ p, ga = some p → B < p.block) := Lib.hid (fun p e => by have := hgg p e; omega)
          have gZ : Hid (∀ p, ga = some p → w.heap.size < p.block) := Lib.hid (fun p e => by have := hgg p e; omega)
          have hgn' := Lib.hid hgn
          have hii10 := hii
          have hgg10 := Lib.hid hgi
          clear hgi hgn hgg hgc hown hii hUs
          obtain ⟨L10, rfl⟩ : ∃ z, z = Lj := ⟨_, rfl⟩
          obtain ⟨b10, rfl⟩ : ∃ z, z = bj := ⟨_, rfl⟩
          obtain ⟨w10, rfl⟩ : ∃ z, z = wr := ⟨_, rfl⟩
          have hJ10 := hJ
          have hI10 := hI
          have hR10 := hR
          clear hJ hI hR
          go_wp2_with fail
          have hJ11 := Lib.hid (hJ10.out.num hI10.out.okB 8 18446744073709551615 (by decide))
          have hd11 := rd64 (b := b10) hI10.out.okB
          refine (i64_d hI10.out).mono ?_
          rintro e w11 ⟨rfl, hq11, ho11⟩
          generalize rdN L10 b10 8 = q11 at *
          obtain ⟨y11, L11, b11⟩ := q11
          dsimp only at hJ11 hq11 hd11
          obtain ⟨lo11, hi11⟩ := hd11
          have hI11 := Lib.hid hq11
          have hR11 := Lib.hid (hR10.out.only ho11)
          have hii11 := Lib.hid (ints_only hii10.out ho11 fI.out)
          have hgg11 := Lib.hid (ints_only hgg10.out ho11 gI.out)
          clear hii10 hgg10
          clear hq11 ho11 hJ10 hI10 hR10
          go_wp2_with fail
          have hJ12 := Lib.hid (hJ11.out.num hI11.out.okB 8 18446744073709551615 (by decide))
          have hd12 := rd64 (b := b11) hI11.out.okB
          refine (i64_d hI11.out).mono ?_
          rintro e w12 ⟨rfl, hq12, ho12⟩
          generalize rdN L11 b11 8 = q12 at *
          obtain ⟨y12, L12, b12⟩ := q12
          dsimp only at hJ12 hq12 hd12
          obtain ⟨lo12, hi12⟩ := hd12
          have hI12 := Lib.hid hq12
          have hR12 := Lib.hid (hR11.out.only ho12)
          have hii12 := Lib.hid (ints_only hii11.out ho12 fI.out)
          have hgg12 := Lib.hid (ints_only hgg11.out ho12 gI.out)
          clear hii11 hgg11
          clear hq12 ho12 hJ11 hI11 hR11
          go_wp2_with fail
          have hJ13 := Lib.hid (hJ12.out.num hI12.out.okB 8 18446744073709551615 (by decide))
          have hd13 := rd64 (b := b12) hI12.out.okB
          refine (i64_d hI12.out).mono ?_
          rintro e w13 ⟨rfl, hq13, ho13⟩
          generalize rdN L12 b12 8 = q13 at *
          obtain ⟨y13, L13, b13⟩ := q13
          dsimp only at hJ13 hq13 hd13
          obtain ⟨lo13, hi13⟩ := hd13
          have hI13 := Lib.hid hq13
          have hR13 := Lib.hid (hR12.out.only ho13)
          have hii13 := Lib.hid (ints_only hii12.out ho13 fI.out)
          have hgg13 := Lib.hid (ints_only hgg12.out ho13 gI.out)
          clear hii12 hgg12
          clear hq13 ho13 hJ12 hI12 hR12
          go_wp2_with fail
          have hJ14 := Lib.hid (hJ13.out.num hI13.out.okB 8 18446744073709551615 (by decide))
          have hd14 := rd64 (b := b13) hI13.out.okB
          refine (i64_d hI13.out).mono ?_
          rintro e w14 ⟨rfl, hq14, ho14⟩
          generalize rdN L13 b13 8 = q14 at *
          obtain ⟨y14, L14, b14⟩ := q14
          dsimp only at hJ14 hq14 hd14
          obtain ⟨lo14, hi14⟩ := hd14
          have hI14 := Lib.hid hq14
          have hR14 := Lib.hid (hR13.out.only ho14)
          have hii14 := Lib.hid (ints_only hii13.out ho14 fI.out)
          have hgg14 := Lib.hid (ints_only hgg13.out ho14 gI.out)
          clear hii13 hgg13
          clear hq14 ho14 hJ13 hI13 hR13
          have c10 : w14.cell? ⟨B, 10, none⟩ = some (.int .i64 0) := (hR14.out.cell 10).trans rfl
          have f10 : w14.frozen? ⟨B, 10, none⟩ = false := hR14.out.free 10
          have c11 : w14.cell? ⟨B, 11, none⟩ = some (.int .i64 0) := (hR14.out.cell 11).trans rfl
          have f11 : w14.frozen? ⟨B, 11, none⟩ = false := hR14.out.free 11
          have c12 : w14.cell? ⟨B, 12, none⟩ = some (.int .i64 0) := (hR14.out.cell 12).trans rfl
          have f12 : w14.frozen? ⟨B, 12, none⟩ = false := hR14.out.free 12
          have c13 : w14.cell? ⟨B, 13, none⟩ = some (.int .i64 0) := (hR14.out.cell 13).trans rfl
          have f13 : w14.frozen? ⟨B, 13, none⟩ = false := hR14.out.free 13
          have hR15 : Hid (RT w I B #[.int .i64 y1, .int .i64 y2, .int .i64 y3, .int .i64 y4, .int .i64 (y5 - 1), .bool y6, .int .i64 y7, .int .i64 y8, .slice oa i2 oc, .slice ga i2 gc, .int .i64 (wrap64 y11), .int .i64 (wrap64 y12), .int .i64 (wrap64 y13), .int .i64 (wrap64 y14)] ((((w14.setCell ⟨B, 10, none⟩ (.int .i64 (wrap64 y11))).setCell ⟨B, 11, none⟩ (.int .i64 (wrap64 y12))).setCell ⟨B, 12, none⟩ (.int .i64 (wrap64 y13))).setCell ⟨B, 13, none⟩ (.int .i64 (wrap64 y14)))) := Lib.hid ((((hR14.out.set 10 (.int .i64 (wrap64 y11))).set 11 (.int .i64 (wrap64 y12))).set 12 (.int .i64 (wrap64 y13))).set 13 (.int .i64 (wrap64 y14)))
          have hI15 := Lib.hid ((((hI14.out.setCell hBI hDB 10 (.int .i64 (wrap64 y11))).setCell hBI hDB 11 (.int .i64 (wrap64 y12))).setCell hBI hDB 12 (.int .i64 (wrap64 y13))).setCell hBI hDB 13 (.int .i64 (wrap64 y14)))
          have hii15 := Lib.hid (Ma.ints_setcell (Ma.ints_setcell (Ma.ints_setcell (Ma.ints_setcell hii14.out fB.out 10 (.int .i64 (wrap64 y11))) fB.out 11 (.int .i64 (wrap64 y12))) fB.out 12 (.int .i64 (wrap64 y13))) fB.out 13 (.int .i64 (wrap64 y14)))
          have hgg15 := Lib.hid (Ma.ints_setcell (Ma.ints_setcell (Ma.ints_setcell (Ma.ints_setcell hgg14.out gB.out 10 (.int .i64 (wrap64 y11))) gB.out 11 (.int .i64 (wrap64 y12))) gB.out 12 (.int .i64 (wrap64 y13))) gB.out 13 (.int .i64 (wrap64 y14)))
          go_upto_region 12 with fail
          generalize ((((w14.setCell ⟨B, 10, none⟩ (.int .i64 (wrap64 y11))).setCell ⟨B, 11, none⟩ (.int .i64 (wrap64 y12))).setCell ⟨B, 12, none⟩ (.int .i64 (wrap64 y13))).setCell ⟨B, 13, none⟩ (.int .i64 (wrap64 y14))) = w15 at *
          clear c10 c11 c12 c13 f10 f11 f12 f13 hR14 hI14 hii14 hgg14
          have hB19 := Lib.hid (bad_r hI15.out.inL)
          have hSb := hR15.out.b
          have hSz := hR15.out.z
          have hJx : JM L0 (rmI y1 y2 y3 y4 (y5 - 1) y7 y8 (wrap64 y11) (wrap64 y12) (wrap64 y13) (wrap64 y14) y6 us gs) L14 b14 := by
            have := hJ14.out
            have e4 : y5 - 1 + 1 = y5 := by omega
            have ej : ((us.length : Nat) : Int) = (i2 : Int) := by rw [hul.out]
            simp only [rmI, e4, ej, wd8_wrap lo11 hi11, wd8_wrap lo12 hi12, wd8_wrap lo13 hi13, wd8_wrap lo14 hi14]
            simpa using this
          have hall : ∀ x ∈ [wrap64 y11, wrap64 y12, wrap64 y13, wrap64 y14], -9223372036854775808 ≤ x ∧ x < 9223372036854775808 := by
            intro x hx
            simp only [List.mem_cons, List.not_mem_nil, or_false] at hx
            rcases hx with rfl | rfl | rfl | rfl <;> exact wrap64_bd _
          replace hJx := Lib.hid hJx
          replace hall := Lib.hid hall
          cases b14 with
          | true =>
            go_wp2_with fail
            refine hB19.out.mono ?_
            rintro e w16 ⟨rfl, rfl⟩
            go_wp2_with (first
              | (refine wpList_store_row rfl 76 _ _ rfl w.heap.size #[.int .i64 0, .int .i64 0, .int .i64 0, .int .i64 0, .int .i64 0, .bool false, .int .i64 0, .int .i64 0, .slice none 0 0, .slice none 0 0, .int .i64 0, .int .i64 0, .int .i64 0, .int .i64 0] rfl rfl 76 #[.int .i64 0, .int .i64 0, .int .i64 0, .int .i64 0, .int .i64 0, .bool false, .int .i64 0, .int .i64 0, .slice none 0 0, .slice none 0 0, .int .i64 0, .int .i64 0, .int .i64 0, .int .i64 0] hSz info76 rfl (by simp [Value.oneCell']) ?_))
            refine bodyPost_ret (results_cell_row (p := 2) (ty := 76) rfl _ _ w.heap.size 76 #[.int .i64 0, .int .i64 0, .int .i64 0, .int .i64 0, .int .i64 0, .bool false, .int .i64 0, .int .i64 0, .slice none 0 0, .slice none 0 0, .int .i64 0, .int .i64 0, .int .i64 0, .int .i64 0] (0, 0) _ (by rfl) (setRow_h _ _ _ _ _ _ hSz) Try.underlying76 rfl info76) rfl ⟨y1, y2, y3, y4, y5 - 1, y7, y8, wrap64 y11, wrap64 y12, wrap64 y13, wrap64 y14, y6, us, gs, L14, true, (hI15.out.setRow hZI hDZ #[.int .i64 0, .int .i64 0, .int .i64 0, .int .i64 0, .int .i64 0, .bool false, .int .i64 0, .int .i64 0, .slice none 0 0, .slice none 0 0, .int .i64 0, .int .i64 0, .int .i64 0, .int .i64 0]), hR15.out.row #[.int .i64 0, .int .i64 0, .int .i64 0, .int .i64 0, .int .i64 0, .bool false, .int .i64 0, .int .i64 0, .slice none 0 0, .slice none 0 0, .int .i64 0, .int .i64 0, .int .i64 0, .int .i64 0], hJx.out, ⟨L9, b9, by rw [hul.out]; have := hJc.out; simpa [rm9] using this⟩, by rw [hul.out, hgl.out], by rw [hul.out]; omega, hub.out, hgb.out, ⟨lo1, hi1⟩, ⟨lo2, hi2⟩, ⟨lo3, hi3⟩, ⟨lo4, hi4⟩, ⟨by omega, by omega⟩, ⟨lo7, hi7⟩, ⟨lo8, hi8⟩, hall.out, Or.inl ⟨rfl, rfl⟩⟩
          | false =>
            go_wp2_with fail
            refine hB19.out.mono ?_
            rintro e w16 ⟨rfl, rfl⟩
            have hfx := Lib.hid (Ma.ints_setrow hii15.out fZ.out #[.int .i64 y1, .int .i64 y2, .int .i64 y3, .int .i64 y4, .int .i64 (y5 - 1), .bool y6, .int .i64 y7, .int .i64 y8, .slice oa i2 oc, .slice ga i2 gc, .int .i64 (wrap64 y11), .int .i64 (wrap64 y12), .int .i64 (wrap64 y13), .int .i64 (wrap64 y14)])
            have hfy := Lib.hid (Ma.ints_setrow hgg15.out gZ.out #[.int .i64 y1, .int .i64 y2, .int .i64 y3, .int .i64 y4, .int .i64 (y5 - 1), .bool y6, .int .i64 y7, .int .i64 y8, .slice oa i2 oc, .slice ga i2 gc, .int .i64 (wrap64 y11), .int .i64 (wrap64 y12), .int .i64 (wrap64 y13), .int .i64 (wrap64 y14)])
            go_wp2_with (first
              | (refine wpList_load_row rfl 76 _ rfl B rfl 76 #[.int .i64 y1, .int .i64 y2, .int .i64 y3, .int .i64 y4, .int .i64 (y5 - 1), .bool y6, .int .i64 y7, .int .i64 y8, .slice oa i2 oc, .slice ga i2 gc, .int .i64 (wrap64 y11), .int .i64 (wrap64 y12), .int .i64 (wrap64 y13), .int .i64 (wrap64 y14)] (0, 0) _ hSb Try.underlying76 rfl info76 ?_)
              | (refine wpList_store_row rfl 76 _ _ rfl w.heap.size #[.int .i64 y1, .int .i64 y2, .int .i64 y3, .int .i64 y4, .int .i64 (y5 - 1), .bool y6, .int .i64 y7, .int .i64 y8, .slice oa i2 oc, .slice ga i2 gc, .int .i64 (wrap64 y11), .int .i64 (wrap64 y12), .int .i64 (wrap64 y13), .int .i64 (wrap64 y14)] rfl rfl 76 #[.int .i64 0, .int .i64 0, .int .i64 0, .int .i64 0, .int .i64 0, .bool false, .int .i64 0, .int .i64 0, .slice none 0 0, .slice none 0 0, .int .i64 0, .int .i64 0, .int .i64 0, .int .i64 0] hSz info76 rfl (by simp [Value.oneCell']) ?_))
            refine bodyPost_ret (results_cell_row (p := 2) (ty := 76) rfl _ _ w.heap.size 76 #[.int .i64 y1, .int .i64 y2, .int .i64 y3, .int .i64 y4, .int .i64 (y5 - 1), .bool y6, .int .i64 y7, .int .i64 y8, .slice oa i2 oc, .slice ga i2 gc, .int .i64 (wrap64 y11), .int .i64 (wrap64 y12), .int .i64 (wrap64 y13), .int .i64 (wrap64 y14)] (0, 0) _ (by rfl) (setRow_h _ _ _ _ _ _ hSz) Try.underlying76 rfl info76) rfl ⟨y1, y2, y3, y4, y5 - 1, y7, y8, wrap64 y11, wrap64 y12, wrap64 y13, wrap64 y14, y6, us, gs, L14, false, (hI15.out.setRow hZI hDZ #[.int .i64 y1, .int .i64 y2, .int .i64 y3, .int .i64 y4, .int .i64 (y5 - 1), .bool y6, .int .i64 y7, .int .i64 y8, .slice oa i2 oc, .slice ga i2 gc, .int .i64 (wrap64 y11), .int .i64 (wrap64 y12), .int .i64 (wrap64 y13), .int .i64 (wrap64 y14)]), hR15.out.row #[.int .i64 y1, .int .i64 y2, .int .i64 y3, .int .i64 y4, .int .i64 (y5 - 1), .bool y6, .int .i64 y7, .int .i64 y8, .slice oa i2 oc, .slice ga i2 gc, .int .i64 (wrap64 y11), .int .i64 (wrap64 y12), .int .i64 (wrap64 y13), .int .i64 (wrap64 y14)], hJx.out, ⟨L9, b9, by rw [hul.out]; have := hJc.out; simpa [rm9] using this⟩, by rw [hul.out, hgl.out], by rw [hul.out]; omega, hub.out, hgb.out, ⟨lo1, hi1⟩, ⟨lo2, hi2⟩, ⟨lo3, hi3⟩, ⟨lo4, hi4⟩, ⟨by omega, by omega⟩, ⟨lo7, hi7⟩, ⟨lo8, hi8⟩, hall.out, Or.inr ⟨rfl, oa, ga, oc, gc, by rw [hul.out, hgl.out], by rw [hul.out]; exact hfx.out, by rw [hgl.out]; exact hfy.out, by rw [hul.out]; exact hon'.out, by rw [hgl.out]; exact hgn'.out, fun p e => Nat.le_of_lt (fZ.out p e), fun p e => Nat.le_of_lt (gZ.out p e)⟩⟩

end Go.Proofs.Ytnkgbigjpihfeaa.Kd
