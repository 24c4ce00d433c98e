/- command.read at whatever bytes. -/
import Derived.Test.YtnkgbigjpihfeaaEc
import Derived.Deep.AppendLies
import Derived.Deep.RegionLaw
set_option linter.unusedVariables false
set_option linter.unusedSimpArgs false
namespace Go.Proofs.Ytnkgbigjpihfeaa.Kd
open Go.RowKit Go.Proofs.Ytnkgbigjpihfeaa.Lib
open Go.Proofs.Ytnkgbigjpihfeaa.Ma (alloc_keep alloc_at cbox_cells info3 setRow_h)

/-- While a command is read: its box is B, the result's is the first new one. -/
structure RS (w : World) (I B : Nat) (X : Array Value) (wr : World) : Prop where
  z : wr.heap[w.heap.size]? = some (.cells #[.int .i64 0, .int .i64 0, .slice none 0 0, .int .i64 0, .int .i64 0, .bool false, .int .i64 0, .int .i64 0, .int .i64 0, .int .i64 0, .int .i64 0, .bool false] 55 (0, 0))
  b : wr.heap[B]? = some (.cells X 55 (0, 0))
  gr : w.grownBy wr (some I)
  lt : w.heap.size < B
  il : I < w.heap.size

theorem RS.only {w w1 w2 : World} {I B : Nat} {X : Array Value} (h : RS w I B X w1) (k : Only I w1 w2) : RS w I B X w2 :=
  ⟨(k.block _ (by have := h.il; omega)).trans h.z, (k.block _ (by have := h.il; have := h.lt; omega)).trans h.b, ⟨k.os.trans h.gr.os, k.tape.trans h.gr.tape, k.output.trans h.gr.output, by rw [k.size]; exact h.gr.size, fun i hi hn => (k.block i (fun e => hn (by rw [e]))).trans (h.gr.block i hi hn)⟩, h.lt, h.il⟩
theorem RS.below {w w1 w2 : World} {I B : Nat} {X : Array Value} (h : RS w I B X w1) (k : Below w1.heap.size w1 w2) : RS w I B X w2 :=
  ⟨(k.block _ (Array.getElem?_eq_some_iff.1 h.z).1).trans h.z, (k.block _ (Array.getElem?_eq_some_iff.1 h.b).1).trans h.b, ⟨k.os.trans h.gr.os, k.tape.trans h.gr.tape, k.output.trans h.gr.output, Nat.le_trans h.gr.size k.size, fun i hi hn => (k.block i (Nat.lt_of_lt_of_le hi h.gr.size)).trans (h.gr.block i hi hn)⟩, h.lt, h.il⟩
theorem RS.grown {w w1 w2 : World} {I B : Nat} {X : Array Value} {row : Option Nat} (h : RS w I B X w1) (k : w1.grownBy w2 row) (hr : ∀ g, row = some g → B < g) : RS w I B X w2 := by
  have hl := h.lt
  have hb : ∀ i, i ≤ B → some i ≠ row := fun i hi e => by have := hr i e.symm; omega
  have hbl := (Array.getElem?_eq_some_iff.1 h.b).1
  exact ⟨(k.block _ (by omega) (hb _ (by omega))).trans h.z, (k.block _ hbl (hb _ (Nat.le_refl _))).trans h.b, ⟨k.os.trans h.gr.os, k.tape.trans h.gr.tape, k.output.trans h.gr.output, Nat.le_trans h.gr.size k.size, fun i hi hn => (k.block i (Nat.lt_of_lt_of_le hi h.gr.size) (hb i (by omega))).trans (h.gr.block i hi hn)⟩, h.lt, h.il⟩
theorem RS.set {w w1 : World} {I B : Nat} {X : Array Value} (h : RS w I B X w1) (i : Nat) (v : Value) : RS w I B (X.setIfInBounds i v) (w1.setCell ⟨B, i, none⟩ v) := by
  have hl := h.lt
  have hil := h.il
  refine ⟨(heap_setCell_other w1 ⟨B, i, none⟩ _ v (by show w.heap.size ≠ B; omega)).trans h.z, heap_setCell_same w1 B i _ _ v h.b, ⟨h.gr.os, h.gr.tape, h.gr.output, by simpa using h.gr.size, fun k hk hn => (heap_setCell_other w1 ⟨B, i, none⟩ k v (by show k ≠ B; omega)).trans (h.gr.block k hk hn)⟩, hl, hil⟩
theorem RS.cell {w w1 : World} {I B : Nat} {X : Array Value} (h : RS w I B X w1) (i : Nat) : w1.cell? ⟨B, i, none⟩ = X[i]? := by simp [World.cell?, h.b]
theorem RS.free {w w1 : World} {I B : Nat} {X : Array Value} (h : RS w I B X w1) (i : Nat) : w1.frozen? ⟨B, i, none⟩ = false := by simp [World.frozen?, h.b]
theorem RS.blt {w w1 : World} {I B : Nat} {X : Array Value} (h : RS w I B X w1) : B < w1.heap.size := (Array.getElem?_eq_some_iff.1 h.b).1
/-- The result is laid. -/
theorem RS.row {w w1 : World} {I B : Nat} {X : Array Value} (h : RS w I B X w1) (cs : Array Value) : w.grownBy (w1.setRow w.heap.size cs) (some I) :=
  ⟨h.gr.os, h.gr.tape, h.gr.output, by simpa using h.gr.size, fun k hk hn => (setRow_other w1 _ k cs (by omega)).trans (h.gr.block k hk hn)⟩

/-- What read gives. -/
def readPost (L : List Int) (D : Nat) (w : World) (I : Nat) (e : Ending) (w' : World) : Prop :=
  ∃ (xk xo xr xw xm xu xg xd xq : Int) (xb xy : Bool) (xa : Option Addr) (xn xc : Nat) (xF : Nat → Int) (L' : List Int) (bad : Bool),
    e = .returned (.agg #[.int .i64 xk, .int .i64 xo, .slice xa xn xc, .int .i64 xr, .int .i64 xw, .bool xb, .int .i64 xm, .int .i64 xu, .int .i64 xg, .int .i64 xd, .int .i64 xq, .bool xy]) ∧ xk < 9223372036854775808 ∧ bnd xo xr xw xm xu xg xd xq ∧ IntsAt w' .i64 xa xn xF ∧ (xa = none → xn = 0) ∧ (∀ p, xa = some p → w.heap.size ≤ p.block) ∧ xn ≤ 255 ∧ (∀ j, j < xn → xF j < 9223372036854775808) ∧
    RD L xk xo xr xw xm xu xg xd xq xb xy xn xF L' bad ∧ InD w' I L' bad D ∧ w.grownBy w' (some I)

theorem rd8 {L : List Int} {b : Bool} (h : okB L) : 0 ≤ (rdN L b 1).1 ∧ (rdN L b 1).1 < 256 := by have := rdN_lt (bad := b) (k := 1) h; rwa [p1] at this
theorem rd16 {L : List Int} {b : Bool} (h : okB L) : 0 ≤ (rdN L b 2).1 ∧ (rdN L b 2).1 < 65536 := by have := rdN_lt (bad := b) (k := 2) h; rwa [p2] at this
theorem rd32 {L : List Int} {b : Bool} (h : okB L) : 0 ≤ (rdN L b 4).1 ∧ (rdN L b 4).1 < 4294967296 := by have := rdN_lt (bad := b) (k := 4) h; rwa [p4] at this

theorem ints_only {w w' : World} {I : Nat} {k : IntKind} {a : Option Addr} {n : Nat} {F : Nat → Int} (h : IntsAt w k a n F) (ho : Only I w w') (hne : ∀ p, a = some p → I < p.block) : IntsAt w' k a n F := by
  refine ⟨h.1, fun hp => ?_⟩
  obtain ⟨b, off, rfl, hb, hc⟩ := h.2 hp
  have := hne _ rfl
  exact ⟨b, off, rfl, by rw [ho.size]; exact hb, fun j hj => (World.cell?_of_block (a := ⟨b, off + j, none⟩) (ho.block b (Nat.ne_of_gt this))).trans (hc j hj)⟩

theorem nil_ints (w : World) (k : IntKind) (F : Nat → Int) : IntsAt w k none 0 F := ⟨by omega, fun h => absurd h (by omega)⟩
theorem small63 {x : Int} (h : x < 4294967296) : x < 9223372036854775808 := by omega

set_option maxRecDepth 100000 in
set_option maxHeartbeats 16000000 in
theorem read_any {w : World} {I D : Nat} {L0 : List Int} (h : InD w I L0 false D) (hD : D ≤ w.heap.size) :
    Calls Try.prog 75 #[.pointer (some ⟨I, 0, none⟩)] w fun e w' => readPost L0 D w I e w' := by
  have hIl := h.lt
  have hI0 := Lib.hid (h.alloc (.cells #[.int .i64 0, .int .i64 0, .slice none 0 0, .int .i64 0, .int .i64 0, .bool false, .int .i64 0, .int .i64 0, .int .i64 0, .int .i64 0, .int .i64 0, .bool false] 55))
  have hJ0 := Lib.hid (J.start L0)
  have hz0 : (w.alloc (.cells #[.int .i64 0, .int .i64 0, .slice none 0 0, .int .i64 0, .int .i64 0, .bool false, .int .i64 0, .int .i64 0, .int .i64 0, .int .i64 0, .int .i64 0, .bool false] 55)).heap[w.heap.size]? = some (.cells #[.int .i64 0, .int .i64 0, .slice none 0 0, .int .i64 0, .int .i64 0, .bool false, .int .i64 0, .int .i64 0, .int .i64 0, .int .i64 0, .int .i64 0, .bool false] 55 (0, 0)) := heap_alloc_new _ _
  have hs0 : (w.alloc (.cells #[.int .i64 0, .int .i64 0, .slice none 0 0, .int .i64 0, .int .i64 0, .bool false, .int .i64 0, .int .i64 0, .int .i64 0, .int .i64 0, .int .i64 0, .bool false] 55)).heap.size = w.heap.size + 1 := by simp
  have hg0 : w.grownBy (w.alloc (.cells #[.int .i64 0, .int .i64 0, .slice none 0 0, .int .i64 0, .int .i64 0, .bool false, .int .i64 0, .int .i64 0, .int .i64 0, .int .i64 0, .int .i64 0, .bool false] 55)) (some I) := World.grownBy_alloc _ _ _
  replace hz0 := Lib.hid hz0
  replace hg0 := Lib.hid hg0
  clear h
  go_enter Try.func75, Try.ntmps75
  go_wp2_with fail
  generalize w.alloc (.cells #[.int .i64 0, .int .i64 0, .slice none 0 0, .int .i64 0, .int .i64 0, .bool false, .int .i64 0, .int .i64 0, .int .i64 0, .int .i64 0, .int .i64 0, .bool false] 55) = w0 at *
  have hJ1 := Lib.hid (hJ0.out.snoc hI0.out.okB 1)
  have hd1 := rd8 (b := false) hI0.out.okB
  refine (u8_d hI0.out).mono ?_
  rintro e w1' ⟨rfl, hq1, ho1⟩
  generalize rdN L0 false 1 = q1 at *
  obtain ⟨x1, L1, b1⟩ := q1
  dsimp only at hd1 hJ1 hq1
  obtain ⟨lo1, hi1⟩ := hd1
  have hsz1 : w1'.heap.size = w.heap.size + 1 := by rw [ho1.size]; exact hs0
  have hR0 : RS w I w1'.heap.size #[.int .i64 x1, .int .i64 0, .slice none 0 0, .int .i64 0, .int .i64 0, .bool false, .int .i64 0, .int .i64 0, .int .i64 0, .int .i64 0, .int .i64 0, .bool false] (w1'.alloc (.cells #[.int .i64 x1, .int .i64 0, .slice none 0 0, .int .i64 0, .int .i64 0, .bool false, .int .i64 0, .int .i64 0, .int .i64 0, .int .i64 0, .int .i64 0, .bool false] 55)) := by
    refine ⟨alloc_keep ((ho1.block _ (by omega)).trans hz0.out), heap_alloc_new _ _, ?_, by omega, hIl⟩
    have ha := World.grownBy_alloc w1' (.cells #[.int .i64 x1, .int .i64 0, .slice none 0 0, .int .i64 0, .int .i64 0, .bool false, .int .i64 0, .int .i64 0, .int .i64 0, .int .i64 0, .int .i64 0, .bool false] 55) (some I)
    exact grown_trans hg0.out (grown_trans ⟨ho1.os, ho1.tape, ho1.output, Nat.le_of_eq ho1.size.symm, fun k _ hn => ho1.block k (fun e => hn (by rw [e]))⟩ ha)
  have hI1 := Lib.hid (hq1.alloc (.cells #[.int .i64 x1, .int .i64 0, .slice none 0 0, .int .i64 0, .int .i64 0, .bool false, .int .i64 0, .int .i64 0, .int .i64 0, .int .i64 0, .int .i64 0, .bool false] 55))
  have hR1 := Lib.hid hR0
  clear hR0 hq1 ho1 hs0 hz0 hg0
  replace hsz1 := Lib.hid hsz1
  go_upto_region 2 with fail
  generalize hB : w1'.heap.size = B at *
  generalize w1'.alloc (.cells #[.int .i64 x1, .int .i64 0, .slice none 0 0, .int .i64 0, .int .i64 0, .bool false, .int .i64 0, .int .i64 0, .int .i64 0, .int .i64 0, .int .i64 0, .bool false] 55) = w1 at *
  have hsB := hsz1.out
  have hBI : B ≠ I := by omega
  have hIB : I < B := by omega
  have hDB : D ≤ B := by omega
  have hZI : w.heap.size ≠ I := by omega
  have hDZ := hD
  clear hsB
  have c0 : w1.cell? ⟨B, 0, none⟩ = some (.int .i64 x1) := (hR1.out.cell 0).trans rfl
  clear hI0
  cases g2 : (x1 == 2)
  rotate_left
  · obtain rfl : x1 = 2 := by simpa using g2
    as_aux_lemma =>
      go_wp2_with fail
      have hJ2 := Lib.hid (hJ1.out.snoc hI1.out.okB 2)
      have hd2 := rd16 (b := b1) hI1.out.okB
      refine (u16_d hI1.out).mono ?_
      rintro e w2 ⟨rfl, hq2, ho2⟩
      generalize rdN L1 b1 2 = q2 at *
      obtain ⟨x2, L2, b2⟩ := q2
      dsimp only at hd2 hJ2 hq2
      obtain ⟨lo2, hi2⟩ := hd2
      have hI2 := Lib.hid hq2
      have hR2 := Lib.hid (hR1.out.only ho2)
      clear hq2 ho2
      have c6 : w2.cell? ⟨B, 6, none⟩ = some (.int .i64 0) := (hR2.out.cell 6).trans rfl
      have f6 : w2.frozen? ⟨B, 6, none⟩ = false := hR2.out.free 6
      have hSb : (w2.setCell ⟨B, 6, none⟩ (.int .i64 x2)).heap[B]? = some (.cells #[.int .i64 2, .int .i64 0, .slice none 0 0, .int .i64 0, .int .i64 0, .bool false, .int .i64 x2, .int .i64 0, .int .i64 0, .int .i64 0, .int .i64 0, .bool false] 55 (0, 0)) := (hR2.out.set 6 (.int .i64 x2)).b
      have hSz := (hR2.out.set 6 (.int .i64 x2)).z
      have hSg := Lib.hid ((hR2.out.set 6 (.int .i64 x2)).row #[.int .i64 2, .int .i64 0, .slice none 0 0, .int .i64 0, .int .i64 0, .bool false, .int .i64 x2, .int .i64 0, .int .i64 0, .int .i64 0, .int .i64 0, .bool false])
      have hSi := Lib.hid ((hI2.out.setCell hBI hDB 6 (.int .i64 x2)).setRow hZI hDZ #[.int .i64 2, .int .i64 0, .slice none 0 0, .int .i64 0, .int .i64 0, .bool false, .int .i64 x2, .int .i64 0, .int .i64 0, .int .i64 0, .int .i64 0, .bool false])
      go_wp2_with (first
        | (refine wpList_load_row rfl 55 _ rfl B rfl 55 #[.int .i64 2, .int .i64 0, .slice none 0 0, .int .i64 0, .int .i64 0, .bool false, .int .i64 x2, .int .i64 0, .int .i64 0, .int .i64 0, .int .i64 0, .bool false] (0, 0) _ hSb Try.underlying55 rfl Ma.info55 ?_)
        | (refine wpList_store_row rfl 55 _ _ rfl w.heap.size #[.int .i64 2, .int .i64 0, .slice none 0 0, .int .i64 0, .int .i64 0, .bool false, .int .i64 x2, .int .i64 0, .int .i64 0, .int .i64 0, .int .i64 0, .bool false] rfl rfl 55 #[.int .i64 0, .int .i64 0, .slice none 0 0, .int .i64 0, .int .i64 0, .bool false, .int .i64 0, .int .i64 0, .int .i64 0, .int .i64 0, .int .i64 0, .bool false] hSz Ma.info55 rfl (by simp [Value.oneCell']) ?_))
      refine bodyPost_ret (results_cell_row (p := 2) (ty := 55) rfl _ _ w.heap.size 55 #[.int .i64 2, .int .i64 0, .slice none 0 0, .int .i64 0, .int .i64 0, .bool false, .int .i64 x2, .int .i64 0, .int .i64 0, .int .i64 0, .int .i64 0, .bool false] (0, 0) _ (by rfl) (setRow_h _ _ _ _ _ _ hSz) Try.underlying55 rfl Ma.info55) rfl ⟨2, 0, 0, 0, x2, 0, 0, 0, 0, false, false, none, 0, 0, fun _ => 0, L2, b2, rfl, by omega, ⟨(by omega), (by omega), (by omega), (by omega), (by omega), (by omega), (by omega), (by omega)⟩, nil_ints _ _ _, fun _ => rfl, (fun p e => by cases e), by omega, fun j hj => absurd hj (by omega), rd_2 hJ1.out hJ2.out, hSi.out, hSg.out⟩
  cases g3 : (x1 == 3)
  rotate_left
  · obtain rfl : x1 = 3 := by simpa using g3
    as_aux_lemma =>
      go_wp2_with fail
      have hJ2 := Lib.hid (hJ1.out.snoc hI1.out.okB 2)
      have hd2 := rd16 (b := b1) hI1.out.okB
      refine (u16_d hI1.out).mono ?_
      rintro e w2 ⟨rfl, hq2, ho2⟩
      generalize rdN L1 b1 2 = q2 at *
      obtain ⟨x2, L2, b2⟩ := q2
      dsimp only at hd2 hJ2 hq2
      obtain ⟨lo2, hi2⟩ := hd2
      have hI2 := Lib.hid hq2
      have hR2 := Lib.hid (hR1.out.only ho2)
      clear hq2 ho2
      have c6 : w2.cell? ⟨B, 6, none⟩ = some (.int .i64 0) := (hR2.out.cell 6).trans rfl
      have f6 : w2.frozen? ⟨B, 6, none⟩ = false := hR2.out.free 6
      have hSb : (w2.setCell ⟨B, 6, none⟩ (.int .i64 x2)).heap[B]? = some (.cells #[.int .i64 3, .int .i64 0, .slice none 0 0, .int .i64 0, .int .i64 0, .bool false, .int .i64 x2, .int .i64 0, .int .i64 0, .int .i64 0, .int .i64 0, .bool false] 55 (0, 0)) := (hR2.out.set 6 (.int .i64 x2)).b
      have hSz := (hR2.out.set 6 (.int .i64 x2)).z
      have hSg := Lib.hid ((hR2.out.set 6 (.int .i64 x2)).row #[.int .i64 3, .int .i64 0, .slice none 0 0, .int .i64 0, .int .i64 0, .bool false, .int .i64 x2, .int .i64 0, .int .i64 0, .int .i64 0, .int .i64 0, .bool false])
      have hSi := Lib.hid ((hI2.out.setCell hBI hDB 6 (.int .i64 x2)).setRow hZI hDZ #[.int .i64 3, .int .i64 0, .slice none 0 0, .int .i64 0, .int .i64 0, .bool false, .int .i64 x2, .int .i64 0, .int .i64 0, .int .i64 0, .int .i64 0, .bool false])
      go_wp2_with (first
        | (refine wpList_load_row rfl 55 _ rfl B rfl 55 #[.int .i64 3, .int .i64 0, .slice none 0 0, .int .i64 0, .int .i64 0, .bool false, .int .i64 x2, .int .i64 0, .int .i64 0, .int .i64 0, .int .i64 0, .bool false] (0, 0) _ hSb Try.underlying55 rfl Ma.info55 ?_)
        | (refine wpList_store_row rfl 55 _ _ rfl w.heap.size #[.int .i64 3, .int .i64 0, .slice none 0 0, .int .i64 0, .int .i64 0, .bool false, .int .i64 x2, .int .i64 0, .int .i64 0, .int .i64 0, .int .i64 0, .bool false] rfl rfl 55 #[.int .i64 0, .int .i64 0, .slice none 0 0, .int .i64 0, .int .i64 0, .bool false, .int .i64 0, .int .i64 0, .int .i64 0, .int .i64 0, .int .i64 0, .bool false] hSz Ma.info55 rfl (by simp [Value.oneCell']) ?_))
      refine bodyPost_ret (results_cell_row (p := 2) (ty := 55) rfl _ _ w.heap.size 55 #[.int .i64 3, .int .i64 0, .slice none 0 0, .int .i64 0, .int .i64 0, .bool false, .int .i64 x2, .int .i64 0, .int .i64 0, .int .i64 0, .int .i64 0, .bool false] (0, 0) _ (by rfl) (setRow_h _ _ _ _ _ _ hSz) Try.underlying55 rfl Ma.info55) rfl ⟨3, 0, 0, 0, x2, 0, 0, 0, 0, false, false, none, 0, 0, fun _ => 0, L2, b2, rfl, by omega, ⟨(by omega), (by omega), (by omega), (by omega), (by omega), (by omega), (by omega), (by omega)⟩, nil_ints _ _ _, fun _ => rfl, (fun p e => by cases e), by omega, fun j hj => absurd hj (by omega), rd_3 hJ1.out hJ2.out, hSi.out, hSg.out⟩
  cases g4 : (x1 == 4)
  rotate_left
  · obtain rfl : x1 = 4 := by simpa using g4
    as_aux_lemma =>
      go_wp2_with fail
      have hJ2 := Lib.hid (hJ1.out.snoc hI1.out.okB 2)
      have hd2 := rd16 (b := b1) hI1.out.okB
      refine (u16_d hI1.out).mono ?_
      rintro e w2 ⟨rfl, hq2, ho2⟩
      generalize rdN L1 b1 2 = q2 at *
      obtain ⟨x2, L2, b2⟩ := q2
      dsimp only at hd2 hJ2 hq2
      obtain ⟨lo2, hi2⟩ := hd2
      have hI2 := Lib.hid hq2
      have hR2 := Lib.hid (hR1.out.only ho2)
      clear hq2 ho2
      have c6 : w2.cell? ⟨B, 6, none⟩ = some (.int .i64 0) := (hR2.out.cell 6).trans rfl
      have f6 : w2.frozen? ⟨B, 6, none⟩ = false := hR2.out.free 6
      have hSb : (w2.setCell ⟨B, 6, none⟩ (.int .i64 x2)).heap[B]? = some (.cells #[.int .i64 4, .int .i64 0, .slice none 0 0, .int .i64 0, .int .i64 0, .bool false, .int .i64 x2, .int .i64 0, .int .i64 0, .int .i64 0, .int .i64 0, .bool false] 55 (0, 0)) := (hR2.out.set 6 (.int .i64 x2)).b
      have hSz := (hR2.out.set 6 (.int .i64 x2)).z
      have hSg := Lib.hid ((hR2.out.set 6 (.int .i64 x2)).row #[.int .i64 4, .int .i64 0, .slice none 0 0, .int .i64 0, .int .i64 0, .bool false, .int .i64 x2, .int .i64 0, .int .i64 0, .int .i64 0, .int .i64 0, .bool false])
      have hSi := Lib.hid ((hI2.out.setCell hBI hDB 6 (.int .i64 x2)).setRow hZI hDZ #[.int .i64 4, .int .i64 0, .slice none 0 0, .int .i64 0, .int .i64 0, .bool false, .int .i64 x2, .int .i64 0, .int .i64 0, .int .i64 0, .int .i64 0, .bool false])
      go_wp2_with (first
        | (refine wpList_load_row rfl 55 _ rfl B rfl 55 #[.int .i64 4, .int .i64 0, .slice none 0 0, .int .i64 0, .int .i64 0, .bool false, .int .i64 x2, .int .i64 0, .int .i64 0, .int .i64 0, .int .i64 0, .bool false] (0, 0) _ hSb Try.underlying55 rfl Ma.info55 ?_)
        | (refine wpList_store_row rfl 55 _ _ rfl w.heap.size #[.int .i64 4, .int .i64 0, .slice none 0 0, .int .i64 0, .int .i64 0, .bool false, .int .i64 x2, .int .i64 0, .int .i64 0, .int .i64 0, .int .i64 0, .bool false] rfl rfl 55 #[.int .i64 0, .int .i64 0, .slice none 0 0, .int .i64 0, .int .i64 0, .bool false, .int .i64 0, .int .i64 0, .int .i64 0, .int .i64 0, .int .i64 0, .bool false] hSz Ma.info55 rfl (by simp [Value.oneCell']) ?_))
      refine bodyPost_ret (results_cell_row (p := 2) (ty := 55) rfl _ _ w.heap.size 55 #[.int .i64 4, .int .i64 0, .slice none 0 0, .int .i64 0, .int .i64 0, .bool false, .int .i64 x2, .int .i64 0, .int .i64 0, .int .i64 0, .int .i64 0, .bool false] (0, 0) _ (by rfl) (setRow_h _ _ _ _ _ _ hSz) Try.underlying55 rfl Ma.info55) rfl ⟨4, 0, 0, 0, x2, 0, 0, 0, 0, false, false, none, 0, 0, fun _ => 0, L2, b2, rfl, by omega, ⟨(by omega), (by omega), (by omega), (by omega), (by omega), (by omega), (by omega), (by omega)⟩, nil_ints _ _ _, fun _ => rfl, (fun p e => by cases e), by omega, fun j hj => absurd hj (by omega), rd_4 hJ1.out hJ2.out, hSi.out, hSg.out⟩
  cases g5 : (x1 == 5)
  rotate_left
  · obtain rfl : x1 = 5 := by simpa using g5
    as_aux_lemma =>
      go_wp2_with fail
      have hJ2 := Lib.hid (hJ1.out.snoc hI1.out.okB 2)
      have hd2 := rd16 (b := b1) hI1.out.okB
      refine (u16_d hI1.out).mono ?_
      rintro e w2 ⟨rfl, hq2, ho2⟩
      generalize rdN L1 b1 2 = q2 at *
      obtain ⟨x2, L2, b2⟩ := q2
      dsimp only at hd2 hJ2 hq2
      obtain ⟨lo2, hi2⟩ := hd2
      have hI2 := Lib.hid hq2
      have hR2 := Lib.hid (hR1.out.only ho2)
      clear hq2 ho2
      have c6 : w2.cell? ⟨B, 6, none⟩ = some (.int .i64 0) := (hR2.out.cell 6).trans rfl
      have f6 : w2.frozen? ⟨B, 6, none⟩ = false := hR2.out.free 6
      have hSb : (w2.setCell ⟨B, 6, none⟩ (.int .i64 x2)).heap[B]? = some (.cells #[.int .i64 5, .int .i64 0, .slice none 0 0, .int .i64 0, .int .i64 0, .bool false, .int .i64 x2, .int .i64 0, .int .i64 0, .int .i64 0, .int .i64 0, .bool false] 55 (0, 0)) := (hR2.out.set 6 (.int .i64 x2)).b
      have hSz := (hR2.out.set 6 (.int .i64 x2)).z
      have hSg := Lib.hid ((hR2.out.set 6 (.int .i64 x2)).row #[.int .i64 5, .int .i64 0, .slice none 0 0, .int .i64 0, .int .i64 0, .bool false, .int .i64 x2, .int .i64 0, .int .i64 0, .int .i64 0, .int .i64 0, .bool false])
      have hSi := Lib.hid ((hI2.out.setCell hBI hDB 6 (.int .i64 x2)).setRow hZI hDZ #[.int .i64 5, .int .i64 0, .slice none 0 0, .int .i64 0, .int .i64 0, .bool false, .int .i64 x2, .int .i64 0, .int .i64 0, .int .i64 0, .int .i64 0, .bool false])
      go_wp2_with (first
        | (refine wpList_load_row rfl 55 _ rfl B rfl 55 #[.int .i64 5, .int .i64 0, .slice none 0 0, .int .i64 0, .int .i64 0, .bool false, .int .i64 x2, .int .i64 0, .int .i64 0, .int .i64 0, .int .i64 0, .bool false] (0, 0) _ hSb Try.underlying55 rfl Ma.info55 ?_)
        | (refine wpList_store_row rfl 55 _ _ rfl w.heap.size #[.int .i64 5, .int .i64 0, .slice none 0 0, .int .i64 0, .int .i64 0, .bool false, .int .i64 x2, .int .i64 0, .int .i64 0, .int .i64 0, .int .i64 0, .bool false] rfl rfl 55 #[.int .i64 0, .int .i64 0, .slice none 0 0, .int .i64 0, .int .i64 0, .bool false, .int .i64 0, .int .i64 0, .int .i64 0, .int .i64 0, .int .i64 0, .bool false] hSz Ma.info55 rfl (by simp [Value.oneCell']) ?_))
      refine bodyPost_ret (results_cell_row (p := 2) (ty := 55) rfl _ _ w.heap.size 55 #[.int .i64 5, .int .i64 0, .slice none 0 0, .int .i64 0, .int .i64 0, .bool false, .int .i64 x2, .int .i64 0, .int .i64 0, .int .i64 0, .int .i64 0, .bool false] (0, 0) _ (by rfl) (setRow_h _ _ _ _ _ _ hSz) Try.underlying55 rfl Ma.info55) rfl ⟨5, 0, 0, 0, x2, 0, 0, 0, 0, false, false, none, 0, 0, fun _ => 0, L2, b2, rfl, by omega, ⟨(by omega), (by omega), (by omega), (by omega), (by omega), (by omega), (by omega), (by omega)⟩, nil_ints _ _ _, fun _ => rfl, (fun p e => by cases e), by omega, fun j hj => absurd hj (by omega), rd_5 hJ1.out hJ2.out, hSi.out, hSg.out⟩
  cases g6 : (x1 == 6)
  rotate_left
  · obtain rfl : x1 = 6 := by simpa using g6
    as_aux_lemma =>
      go_wp2_with fail
      have hJ2 := Lib.hid (hJ1.out.snoc hI1.out.okB 2)
      have hd2 := rd16 (b := b1) hI1.out.okB
      refine (u16_d hI1.out).mono ?_
      rintro e w2 ⟨rfl, hq2, ho2⟩
      generalize rdN L1 b1 2 = q2 at *
      obtain ⟨x2, L2, b2⟩ := q2
      dsimp only at hd2 hJ2 hq2
      obtain ⟨lo2, hi2⟩ := hd2
      have hI2 := Lib.hid hq2
      have hR2 := Lib.hid (hR1.out.only ho2)
      clear hq2 ho2
      go_wp2_with fail
      have hJ3 := Lib.hid (hJ2.out.snoc hI2.out.okB 1)
      have hd3 := rd8 (b := b2) hI2.out.okB
      refine (u8_d hI2.out).mono ?_
      rintro e w3 ⟨rfl, hq3, ho3⟩
      generalize rdN L2 b2 1 = q3 at *
      obtain ⟨x3, L3, b3⟩ := q3
      dsimp only at hd3 hJ3 hq3
      obtain ⟨lo3, hi3⟩ := hd3
      have hI3 := Lib.hid hq3
      have hR3 := Lib.hid (hR2.out.only ho3)
      clear hq3 ho3
      go_wp2_with fail
      have hJ4 := Lib.hid (hJ3.out.snoc hI3.out.okB 1)
      have hd4 := rd8 (b := b3) hI3.out.okB
      refine (u8_d hI3.out).mono ?_
      rintro e w4 ⟨rfl, hq4, ho4⟩
      generalize rdN L3 b3 1 = q4 at *
      obtain ⟨x4, L4, b4⟩ := q4
      dsimp only at hd4 hJ4 hq4
      obtain ⟨lo4, hi4⟩ := hd4
      have hI4 := Lib.hid hq4
      have hR4 := Lib.hid (hR3.out.only ho4)
      clear hq4 ho4
      have c6 : w4.cell? ⟨B, 6, none⟩ = some (.int .i64 0) := (hR4.out.cell 6).trans rfl
      have f6 : w4.frozen? ⟨B, 6, none⟩ = false := hR4.out.free 6
      have c7 : w4.cell? ⟨B, 7, none⟩ = some (.int .i64 0) := (hR4.out.cell 7).trans rfl
      have f7 : w4.frozen? ⟨B, 7, none⟩ = false := hR4.out.free 7
      have c8 : w4.cell? ⟨B, 8, none⟩ = some (.int .i64 0) := (hR4.out.cell 8).trans rfl
      have f8 : w4.frozen? ⟨B, 8, none⟩ = false := hR4.out.free 8
      have hSb : (((w4.setCell ⟨B, 6, none⟩ (.int .i64 x2)).setCell ⟨B, 7, none⟩ (.int .i64 x3)).setCell ⟨B, 8, none⟩ (.int .i64 x4)).heap[B]? = some (.cells #[.int .i64 6, .int .i64 0, .slice none 0 0, .int .i64 0, .int .i64 0, .bool false, .int .i64 x2, .int .i64 x3, .int .i64 x4, .int .i64 0, .int .i64 0, .bool false] 55 (0, 0)) := (((hR4.out.set 6 (.int .i64 x2)).set 7 (.int .i64 x3)).set 8 (.int .i64 x4)).b
      have hSz := (((hR4.out.set 6 (.int .i64 x2)).set 7 (.int .i64 x3)).set 8 (.int .i64 x4)).z
      have hSg := Lib.hid ((((hR4.out.set 6 (.int .i64 x2)).set 7 (.int .i64 x3)).set 8 (.int .i64 x4)).row #[.int .i64 6, .int .i64 0, .slice none 0 0, .int .i64 0, .int .i64 0, .bool false, .int .i64 x2, .int .i64 x3, .int .i64 x4, .int .i64 0, .int .i64 0, .bool false])
      have hSi := Lib.hid ((((hI4.out.setCell hBI hDB 6 (.int .i64 x2)).setCell hBI hDB 7 (.int .i64 x3)).setCell hBI hDB 8 (.int .i64 x4)).setRow hZI hDZ #[.int .i64 6, .int .i64 0, .slice none 0 0, .int .i64 0, .int .i64 0, .bool false, .int .i64 x2, .int .i64 x3, .int .i64 x4, .int .i64 0, .int .i64 0, .bool false])
      go_wp2_with (first
        | (refine wpList_load_row rfl 55 _ rfl B rfl 55 #[.int .i64 6, .int .i64 0, .slice none 0 0, .int .i64 0, .int .i64 0, .bool false, .int .i64 x2, .int .i64 x3, .int .i64 x4, .int .i64 0, .int .i64 0, .bool false] (0, 0) _ hSb Try.underlying55 rfl Ma.info55 ?_)
        | (refine wpList_store_row rfl 55 _ _ rfl w.heap.size #[.int .i64 6, .int .i64 0, .slice none 0 0, .int .i64 0, .int .i64 0, .bool false, .int .i64 x2, .int .i64 x3, .int .i64 x4, .int .i64 0, .int .i64 0, .bool false] rfl rfl 55 #[.int .i64 0, .int .i64 0, .slice none 0 0, .int .i64 0, .int .i64 0, .bool false, .int .i64 0, .int .i64 0, .int .i64 0, .int .i64 0, .int .i64 0, .bool false] hSz Ma.info55 rfl (by simp [Value.oneCell']) ?_))
      refine bodyPost_ret (results_cell_row (p := 2) (ty := 55) rfl _ _ w.heap.size 55 #[.int .i64 6, .int .i64 0, .slice none 0 0, .int .i64 0, .int .i64 0, .bool false, .int .i64 x2, .int .i64 x3, .int .i64 x4, .int .i64 0, .int .i64 0, .bool false] (0, 0) _ (by rfl) (setRow_h _ _ _ _ _ _ hSz) Try.underlying55 rfl Ma.info55) rfl ⟨6, 0, 0, 0, x2, x3, x4, 0, 0, false, false, none, 0, 0, fun _ => 0, L4, b4, rfl, by omega, ⟨(by omega), (by omega), (by omega), (by omega), (by omega), (by omega), (by omega), (by omega)⟩, nil_ints _ _ _, fun _ => rfl, (fun p e => by cases e), by omega, fun j hj => absurd hj (by omega), rd_6 hJ1.out hJ4.out, hSi.out, hSg.out⟩
  cases g7 : (x1 == 7)
  rotate_left
  · obtain rfl : x1 = 7 := by simpa using g7
    as_aux_lemma =>
      go_wp2_with fail
      have hJ2 := Lib.hid (hJ1.out.snoc hI1.out.okB 2)
      have hd2 := rd16 (b := b1) hI1.out.okB
      refine (u16_d hI1.out).mono ?_
      rintro e w2 ⟨rfl, hq2, ho2⟩
      generalize rdN L1 b1 2 = q2 at *
      obtain ⟨x2, L2, b2⟩ := q2
      dsimp only at hd2 hJ2 hq2
      obtain ⟨lo2, hi2⟩ := hd2
      have hI2 := Lib.hid hq2
      have hR2 := Lib.hid (hR1.out.only ho2)
      clear hq2 ho2
      have c9 : w2.cell? ⟨B, 9, none⟩ = some (.int .i64 0) := (hR2.out.cell 9).trans rfl
      have f9 : w2.frozen? ⟨B, 9, none⟩ = false := hR2.out.free 9
      have hSb : (w2.setCell ⟨B, 9, none⟩ (.int .i64 x2)).heap[B]? = some (.cells #[.int .i64 7, .int .i64 0, .slice none 0 0, .int .i64 0, .int .i64 0, .bool false, .int .i64 0, .int .i64 0, .int .i64 0, .int .i64 x2, .int .i64 0, .bool false] 55 (0, 0)) := (hR2.out.set 9 (.int .i64 x2)).b
      have hSz := (hR2.out.set 9 (.int .i64 x2)).z
      have hSg := Lib.hid ((hR2.out.set 9 (.int .i64 x2)).row #[.int .i64 7, .int .i64 0, .slice none 0 0, .int .i64 0, .int .i64 0, .bool false, .int .i64 0, .int .i64 0, .int .i64 0, .int .i64 x2, .int .i64 0, .bool false])
      have hSi := Lib.hid ((hI2.out.setCell hBI hDB 9 (.int .i64 x2)).setRow hZI hDZ #[.int .i64 7, .int .i64 0, .slice none 0 0, .int .i64 0, .int .i64 0, .bool false, .int .i64 0, .int .i64 0, .int .i64 0, .int .i64 x2, .int .i64 0, .bool false])
      go_wp2_with (first
        | (refine wpList_load_row rfl 55 _ rfl B rfl 55 #[.int .i64 7, .int .i64 0, .slice none 0 0, .int .i64 0, .int .i64 0, .bool false, .int .i64 0, .int .i64 0, .int .i64 0, .int .i64 x2, .int .i64 0, .bool false] (0, 0) _ hSb Try.underlying55 rfl Ma.info55 ?_)
        | (refine wpList_store_row rfl 55 _ _ rfl w.heap.size #[.int .i64 7, .int .i64 0, .slice none 0 0, .int .i64 0, .int .i64 0, .bool false, .int .i64 0, .int .i64 0, .int .i64 0, .int .i64 x2, .int .i64 0, .bool false] rfl rfl 55 #[.int .i64 0, .int .i64 0, .slice none 0 0, .int .i64 0, .int .i64 0, .bool false, .int .i64 0, .int .i64 0, .int .i64 0, .int .i64 0, .int .i64 0, .bool false] hSz Ma.info55 rfl (by simp [Value.oneCell']) ?_))
      refine bodyPost_ret (results_cell_row (p := 2) (ty := 55) rfl _ _ w.heap.size 55 #[.int .i64 7, .int .i64 0, .slice none 0 0, .int .i64 0, .int .i64 0, .bool false, .int .i64 0, .int .i64 0, .int .i64 0, .int .i64 x2, .int .i64 0, .bool false] (0, 0) _ (by rfl) (setRow_h _ _ _ _ _ _ hSz) Try.underlying55 rfl Ma.info55) rfl ⟨7, 0, 0, 0, 0, 0, 0, x2, 0, false, false, none, 0, 0, fun _ => 0, L2, b2, rfl, by omega, ⟨(by omega), (by omega), (by omega), (by omega), (by omega), (by omega), (by omega), (by omega)⟩, nil_ints _ _ _, fun _ => rfl, (fun p e => by cases e), by omega, fun j hj => absurd hj (by omega), rd_7 hJ1.out hJ2.out, hSi.out, hSg.out⟩
  cases g8 : (x1 == 8)
  rotate_left
  · obtain rfl : x1 = 8 := by simpa using g8
    as_aux_lemma =>
      go_wp2_with fail
      have hJ2 := Lib.hid (hJ1.out.snoc hI1.out.okB 4)
      have hd2 := rd32 (b := b1) hI1.out.okB
      refine (u32_d hI1.out).mono ?_
      rintro e w2 ⟨rfl, hq2, ho2⟩
      generalize rdN L1 b1 4 = q2 at *
      obtain ⟨x2, L2, b2⟩ := q2
      dsimp only at hd2 hJ2 hq2
      obtain ⟨lo2, hi2⟩ := hd2
      have hI2 := Lib.hid hq2
      have hR2 := Lib.hid (hR1.out.only ho2)
      clear hq2 ho2
      go_wp2_with fail
      have hJ3 := Lib.hid (hJ2.out.flag hI2.out.okB)
      refine (flag_d hI2.out).mono ?_
      rintro e w3 ⟨rfl, hq3, ho3⟩
      generalize rdF L2 b2 = q3 at *
      obtain ⟨x3, L3, b3⟩ := q3
      dsimp only at hJ3 hq3
      have hI3 := Lib.hid hq3
      have hR3 := Lib.hid (hR2.out.only ho3)
      clear hq3 ho3
      have c10 : w3.cell? ⟨B, 10, none⟩ = some (.int .i64 0) := (hR3.out.cell 10).trans rfl
      have f10 : w3.frozen? ⟨B, 10, none⟩ = false := hR3.out.free 10
      have c11 : w3.cell? ⟨B, 11, none⟩ = some (.bool false) := (hR3.out.cell 11).trans rfl
      have f11 : w3.frozen? ⟨B, 11, none⟩ = false := hR3.out.free 11
      have hSb : ((w3.setCell ⟨B, 10, none⟩ (.int .i64 x2)).setCell ⟨B, 11, none⟩ (.bool x3)).heap[B]? = some (.cells #[.int .i64 8, .int .i64 0, .slice none 0 0, .int .i64 0, .int .i64 0, .bool false, .int .i64 0, .int .i64 0, .int .i64 0, .int .i64 0, .int .i64 x2, .bool x3] 55 (0, 0)) := ((hR3.out.set 10 (.int .i64 x2)).set 11 (.bool x3)).b
      have hSz := ((hR3.out.set 10 (.int .i64 x2)).set 11 (.bool x3)).z
      have hSg := Lib.hid (((hR3.out.set 10 (.int .i64 x2)).set 11 (.bool x3)).row #[.int .i64 8, .int .i64 0, .slice none 0 0, .int .i64 0, .int .i64 0, .bool false, .int .i64 0, .int .i64 0, .int .i64 0, .int .i64 0, .int .i64 x2, .bool x3])
      have hSi := Lib.hid (((hI3.out.setCell hBI hDB 10 (.int .i64 x2)).setCell hBI hDB 11 (.bool x3)).setRow hZI hDZ #[.int .i64 8, .int .i64 0, .slice none 0 0, .int .i64 0, .int .i64 0, .bool false, .int .i64 0, .int .i64 0, .int .i64 0, .int .i64 0, .int .i64 x2, .bool x3])
      go_wp2_with (first
        | (refine wpList_load_row rfl 55 _ rfl B rfl 55 #[.int .i64 8, .int .i64 0, .slice none 0 0, .int .i64 0, .int .i64 0, .bool false, .int .i64 0, .int .i64 0, .int .i64 0, .int .i64 0, .int .i64 x2, .bool x3] (0, 0) _ hSb Try.underlying55 rfl Ma.info55 ?_)
        | (refine wpList_store_row rfl 55 _ _ rfl w.heap.size #[.int .i64 8, .int .i64 0, .slice none 0 0, .int .i64 0, .int .i64 0, .bool false, .int .i64 0, .int .i64 0, .int .i64 0, .int .i64 0, .int .i64 x2, .bool x3] rfl rfl 55 #[.int .i64 0, .int .i64 0, .slice none 0 0, .int .i64 0, .int .i64 0, .bool false, .int .i64 0, .int .i64 0, .int .i64 0, .int .i64 0, .int .i64 0, .bool false] hSz Ma.info55 rfl (by simp [Value.oneCell']) ?_))
      refine bodyPost_ret (results_cell_row (p := 2) (ty := 55) rfl _ _ w.heap.size 55 #[.int .i64 8, .int .i64 0, .slice none 0 0, .int .i64 0, .int .i64 0, .bool false, .int .i64 0, .int .i64 0, .int .i64 0, .int .i64 0, .int .i64 x2, .bool x3] (0, 0) _ (by rfl) (setRow_h _ _ _ _ _ _ hSz) Try.underlying55 rfl Ma.info55) rfl ⟨8, 0, 0, 0, 0, 0, 0, 0, x2, false, x3, none, 0, 0, fun _ => 0, L3, b3, rfl, by omega, ⟨(by omega), (by omega), (by omega), (by omega), (by omega), (by omega), (by omega), (by omega)⟩, nil_ints _ _ _, fun _ => rfl, (fun p e => by cases e), by omega, fun j hj => absurd hj (by omega), rd_8 hJ1.out hJ3.out, hSi.out, hSg.out⟩
  cases g1 : (x1 == 1)
  rotate_left
  · obtain rfl : x1 = 1 := by simpa using g1
    go_wp2_with fail
    have hJ2 := Lib.hid (hJ1.out.snoc hI1.out.okB 1)
    have hd2 := rd8 (b := b1) hI1.out.okB
    refine (u8_d hI1.out).mono ?_
    rintro e w2 ⟨rfl, hq2, ho2⟩
    generalize rdN L1 b1 1 = q2 at *
    obtain ⟨x2, L2, b2⟩ := q2
    dsimp only at hd2 hJ2 hq2
    obtain ⟨lo2, hi2⟩ := hd2
    have hI2 := Lib.hid hq2
    have hR2 := Lib.hid (hR1.out.only ho2)
    clear hq2 ho2
    have c1 : w2.cell? ⟨B, 1, none⟩ = some (.int .i64 0) := (hR2.out.cell 1).trans rfl
    have f1 : w2.frozen? ⟨B, 1, none⟩ = false := hR2.out.free 1
    have hR3 := Lib.hid (hR2.out.set 1 (.int .i64 x2))
    have hI3 := Lib.hid (hI2.out.setCell hBI hDB 1 (.int .i64 x2))
    go_wp2_with fail
    generalize w2.setCell ⟨B, 1, none⟩ (.int .i64 x2) = w3 at *
    clear c1 f1 hR2 hI2 hR1 hI1 c0
    have hJ3 := hJ2
    generalize hL3 : L2 = L3 at *
    generalize hb3 : b2 = b3 at *
    clear hL3 hb3 hJ2
    have hJ4 := Lib.hid (hJ3.out.snoc hI3.out.okB 1)
    have hd4 := rd8 (b := b3) hI3.out.okB
    refine (u8_d hI3.out).mono ?_
    rintro e w4 ⟨rfl, hq4, ho4⟩
    generalize rdN L3 b3 1 = q4 at *
    obtain ⟨x4, L4, b4⟩ := q4
    dsimp only at hd4 hJ4 hq4
    obtain ⟨lo4, hi4⟩ := hd4
    have hI4 := Lib.hid hq4
    have hR4 := Lib.hid (hR3.out.only ho4)
    clear hq4 ho4
    obtain ⟨nb, hnb⟩ : ∃ nb : Nat, x4 = (nb : Int) := ⟨x4.toNat, by omega⟩
    subst hnb
    have hnb255 : nb ≤ 255 := by omega
    clear lo4 hi4
    have hR5 : Hid (RS w I B #[.int .i64 1, .int .i64 x2, .slice none 0 0, .int .i64 0, .int .i64 0, .bool false, .int .i64 0, .int .i64 0, .int .i64 0, .int .i64 0, .int .i64 0, .bool false] w4) := hR4
    clear hR4 hR3 hI3
    have hJ5 := hJ4
    have hI5 := hI4
    clear hI4
    clear hJ4
    go_wp2_with fail
    go_loopw [16] (fun i wr => ∃ (j : Nat) (us : List Int) (v : Value) (Lj : List Int) (bj : Bool), j ≤ nb ∧ i = .int .i64 j ∧ us.length = j ∧ Hid (∀ x ∈ us, 0 ≤ x ∧ x < 256) ∧ Hid (RS w I B #[.int .i64 1, .int .i64 x2, v, .int .i64 0, .int .i64 0, .bool false, .int .i64 0, .int .i64 0, .int .i64 0, .int .i64 0, .int .i64 0, .bool false] wr) ∧ Hid (wr.ownsRow (B + 1) 3 1 v j (us.map (Value.int .i64))) ∧ Hid (InD wr I Lj bj D) ∧ Hid (J L0 ([((1 : Int), 1), (x2, 1), ((nb : Int), 1)] ++ us.map (fun x => (x, 1))) Lj bj)) (fun i _ => nb - (intOf i).toNat)
    case atStart => exact ⟨0, [], _, L4, b4, Nat.zero_le _, rfl, rfl, Lib.hid (by simp), hR5, Lib.hid (World.ownsRow_nil _ _ _ _), hI5, Lib.hid hJ5.out⟩
    case round =>
      clear hR5 hI5
      obtain ⟨j, us, v, Lj, bj, hj, rfl, hul, hub, hR, hown, hI, hJ⟩ := hrel
      by_cases hlt : j < nb
      · have hlt' : (j : Int) < nb := by omega
        obtain ⟨i3, hi, hz0, hz1, hz2⟩ := info_parts info3
        have cB : wr.cell? ⟨B, 2, none⟩ = some v := (hR.out.cell 2).trans rfl
        have hJn := Lib.hid (hJ.out.snoc hI.out.okB 1)
        have hdn := rd8 (b := bj) hI.out.okB
        have HC := Lib.hid (u8_d (hI.out.below (Below.drew (Below.refl _ wr))))
        have hRd := Lib.hid (hR.out.below (Below.drew (Below.refl _ wr)))
        have hod := Lib.hid (show wr.drew.ownsRow (B + 1) 3 1 v j (us.map (Value.int .i64)) from hown.out)
        generalize rdN Lj bj 1 = qn at *
        obtain ⟨xn, Ln, bn⟩ := qn
        dsimp only at hJn hdn HC
        obtain ⟨lon, hin⟩ := hdn
        have hlen : (us.map (Value.int .i64)).length = j := by simp [hul]
        have hulh := Lib.hid hul
        clear hul hJ hI hR hown
        have hmem := Lib.hid (show ∀ x ∈ us ++ [xn], 0 ≤ x ∧ x < 256 from by
          intro x hx
          rcases List.mem_append.1 hx with e | e
          · exact hub.out x e
          · rw [List.mem_singleton.1 e]; exact ⟨lon, hin⟩)
        have hvb := Lib.hid hod.out.lt
        go_wp2_with fail
        go_region_law (first
          | (refine step_append_lies _ rfl _ _ 51 rfl (B + 1) 3 i3 (.int .i64 0) 1 8 Try.underlying51 hi hz0 hz1 hz2 rfl (by decide) v j (us.map (Value.int .i64)) rfl (hon2.out.alloc _) ⟨wn.heap.size, 0, none⟩ 1 1 [.int .i64 xn] rfl rfl (World.news_of_block (heap_alloc_new _ _)) (fun x hx => (by simp at hx; subst hx; rfl)) (by omega) (by unfold maxLen; omega) (by omega) (by have := hRn.out.blt; simp; omega) _ rfl ?_; intro g cap w5 hown5 hgrow hat hlg; have hR5 := (hRn.out.below ((Below.refl _ _).alloc (Nat.le_refl _) (.cells #[.int .i64 xn] 3))).grown hgrow (fun g' e => (by have := (hvb.out g' e).1; omega)); have hI5 := (hqn.out.alloc (.cells #[.int .i64 xn] 3)).keep hgrow.size (fun k hk hk2 => hgrow.block k hk (fun e => (by have := (hvb.out k e.symm).1; omega))); have cB5 : w5.cell? ⟨B, 2, none⟩ = some v := (hR5.cell 2).trans rfl; have fB5 : w5.frozen? ⟨B, 2, none⟩ = false := hR5.free 2; replace hR5 := Lib.hid hR5; replace hI5 := Lib.hid hI5; replace hown5 := Lib.hid hown5; clear hgrow hat)
          | (go_simp; go_at_call 20; refine HC.out.mono ?_; rintro e wn ⟨rfl, hqn, hon⟩; have hRn := hRd.out.only hon; have cBn : wn.cell? ⟨B, 2, none⟩ = some v := (hRn.cell 2).trans rfl; have cBa : (wn.alloc (.cells #[.int .i64 xn] 3)).cell? ⟨B, 2, none⟩ = some v := ((hRn.below ((Below.refl _ _).alloc (Nat.le_refl _) (.cells #[.int .i64 xn] 3))).cell 2).trans rfl; have hBl := hRn.blt; have hBe : ¬ B = wn.heap.size := Nat.ne_of_lt hBl; have hon2 := Lib.hid (hod.out.kept (row := some I) ⟨hon.os, hon.tape, hon.output, Nat.le_of_eq hon.size.symm, fun k _ hn => hon.block k (fun e => hn (by rw [e]))⟩ (Or.inr (fun e => (by have := (hvb.out I e).1; omega)))); replace hRn := Lib.hid hRn; replace hqn := Lib.hid hqn; clear hon))
        all_goals
          have hR6 : Hid (RS w I B #[.int .i64 1, .int .i64 x2, .slice (some ⟨g, 0, none⟩) (j + 1) cap, .int .i64 0, .int .i64 0, .bool false, .int .i64 0, .int .i64 0, .int .i64 0, .int .i64 0, .int .i64 0, .bool false] (w5.setCell ⟨B, 2, none⟩ (.slice (some ⟨g, 0, none⟩) (j + 1) cap))) := Lib.hid (hR5.out.set 2 _)
          have hI6 := Lib.hid (hI5.out.setCell hBI hDB 2 (.slice (some ⟨g, 0, none⟩) (j + 1) cap))
          have hgB := (hown5.out.lt g rfl).1
          have hown6 : (w5.setCell ⟨B, 2, none⟩ (.slice (some ⟨g, 0, none⟩) (j + 1) cap)).ownsRow (B + 1) 3 1 (.slice (some ⟨g, 0, none⟩) (j + 1) cap) (j + 1) ((us ++ [xn]).map (Value.int .i64)) := by
            have := hown5.out.kept (row := some B) (w' := w5.setCell ⟨B, 2, none⟩ (.slice (some ⟨g, 0, none⟩) (j + 1) cap)) ⟨rfl, rfl, rfl, by simp, fun k _ hn => heap_setCell_other w5 ⟨B, 2, none⟩ k _ (fun e => hn (by rw [e]))⟩ (Or.inr (fun e => by have e : g = B := (by simpa [Value.ownBlock] using e); omega))
            simpa using this
          replace hown6 := Lib.hid hown6
          have hJ6 : Hid (J L0 ([((1 : Int), 1), (x2, 1), ((nb : Int), 1)] ++ (us ++ [xn]).map (fun x => (x, 1))) Ln bn) := Lib.hid (by
            have := hJn.out
            simpa using this)
          clear hR5 hI5 hown5 hgB cB cB5 fB5 hmem hlen
          have hmem6 : Hid (∀ x ∈ us ++ [xn], 0 ≤ x ∧ x < 256) := Lib.hid (by
            intro x hx
            rcases List.mem_append.1 hx with e | e
            · exact hub.out x e
            · rw [List.mem_singleton.1 e]; exact ⟨lon, hin⟩)
          go_wp2_with fail
          go_roundw
          case rel => exact ⟨j + 1, us ++ [xn], _, Ln, bn, by omega, by go_num, by simp [hulh.out], hmem6, hR6, hown6, hI6, hJ6⟩
          case measure => simp [intOf]; omega
      · obtain rfl : j = nb := by omega
        have hlt' : ¬ (j : Int) < j := by omega
        have hmapF : us.map (Value.int .i64) = ((List.range j).map (fun i => us.getD i 0)).map (Value.int .i64) := by
          apply List.ext_getElem
          · simp [hul]
          · intro i h1 h2
            simp at h1
            simp [List.getD, h1]
        rw [hmapF] at hown
        clear hmapF
        obtain ⟨oa, oc, rfl, hoi, hon, hog, hoc⟩ := Ma.own_ints hown.out
        have hii5 := Lib.hid hoi
        have hon' := Lib.hid hon
        have fI : Hid (∀ p, oa = some p → I < p.block) := Lib.hid (fun p e => by have := hog p e; omega)
        have fB : Hid (∀ p, oa = some p → B < p.block) := Lib.hid (fun p e => by have := hog p e; omega)
        have fZ : Hid (∀ p, oa = some p → w.heap.size < p.block) := Lib.hid (fun p e => by have := hog p e; have := hR.out.lt; omega)
        clear hoi hon hog hoc hown
        have hJm := hJ5
        clear hJ5
        obtain ⟨L5, rfl⟩ : ∃ z, z = Lj := ⟨_, rfl⟩
        obtain ⟨b5, rfl⟩ : ∃ z, z = bj := ⟨_, rfl⟩
        obtain ⟨w5, rfl⟩ : ∃ z, z = wr := ⟨_, rfl⟩
        have hJ5 := hJ
        have hI5 := hI
        have hR5 := hR
        clear hJ hI hR
        have hulh := Lib.hid hul
        clear hul
        go_wp2_with fail
        have hJ6 := Lib.hid (hJ5.out.snoc hI5.out.okB 1)
        have hd6 := rd8 (b := b5) hI5.out.okB
        refine (u8_d hI5.out).mono ?_
        rintro e w6 ⟨rfl, hq6, ho6⟩
        generalize rdN L5 b5 1 = q6 at *
        obtain ⟨x6, L6, b6⟩ := q6
        dsimp only at hd6 hJ6 hq6
        obtain ⟨lo6, hi6⟩ := hd6
        have hI6 := Lib.hid hq6
        have hR6 := Lib.hid (hR5.out.only ho6)
        have hii6 := Lib.hid (ints_only hii5.out ho6 fI.out)
        clear hq6 ho6
        go_wp2_with fail
        have hJ7 := Lib.hid (hJ6.out.snoc hI6.out.okB 2)
        have hd7 := rd16 (b := b6) hI6.out.okB
        refine (u16_d hI6.out).mono ?_
        rintro e w7 ⟨rfl, hq7, ho7⟩
        generalize rdN L6 b6 2 = q7 at *
        obtain ⟨x7, L7, b7⟩ := q7
        dsimp only at hd7 hJ7 hq7
        obtain ⟨lo7, hi7⟩ := hd7
        have hI7 := Lib.hid hq7
        have hR7 := Lib.hid (hR6.out.only ho7)
        have hii7 := Lib.hid (ints_only hii6.out ho7 fI.out)
        clear hq7 ho7
        go_wp2_with fail
        have hJ8 := Lib.hid (hJ7.out.flag hI7.out.okB)
        refine (flag_d hI7.out).mono ?_
        rintro e w8 ⟨rfl, hq8, ho8⟩
        generalize rdF L7 b7 = q8 at *
        obtain ⟨x8, L8, b8⟩ := q8
        dsimp only at hJ8 hq8
        have hI8 := Lib.hid hq8
        have hR8 := Lib.hid (hR7.out.only ho8)
        have hii8 := Lib.hid (ints_only hii7.out ho8 fI.out)
        clear hq8 ho8
        have c3 : w8.cell? ⟨B, 3, none⟩ = some (.int .i64 0) := (hR8.out.cell 3).trans rfl
        have f3 : w8.frozen? ⟨B, 3, none⟩ = false := hR8.out.free 3
        have c4 : w8.cell? ⟨B, 4, none⟩ = some (.int .i64 0) := (hR8.out.cell 4).trans rfl
        have f4 : w8.frozen? ⟨B, 4, none⟩ = false := hR8.out.free 4
        have c5 : w8.cell? ⟨B, 5, none⟩ = some (.bool false) := (hR8.out.cell 5).trans rfl
        have f5 : w8.frozen? ⟨B, 5, none⟩ = false := hR8.out.free 5
        have hSb : (((w8.setCell ⟨B, 3, none⟩ (.int .i64 x6)).setCell ⟨B, 4, none⟩ (.int .i64 x7)).setCell ⟨B, 5, none⟩ (.bool x8)).heap[B]? = some (.cells #[.int .i64 1, .int .i64 x2, .slice oa j oc, .int .i64 x6, .int .i64 x7, .bool x8, .int .i64 0, .int .i64 0, .int .i64 0, .int .i64 0, .int .i64 0, .bool false] 55 (0, 0)) := (((hR8.out.set 3 (.int .i64 x6)).set 4 (.int .i64 x7)).set 5 (.bool x8)).b
        have hSz := (((hR8.out.set 3 (.int .i64 x6)).set 4 (.int .i64 x7)).set 5 (.bool x8)).z
        have hSg := Lib.hid ((((hR8.out.set 3 (.int .i64 x6)).set 4 (.int .i64 x7)).set 5 (.bool x8)).row #[.int .i64 1, .int .i64 x2, .slice oa j oc, .int .i64 x6, .int .i64 x7, .bool x8, .int .i64 0, .int .i64 0, .int .i64 0, .int .i64 0, .int .i64 0, .bool false])
        have hSi := Lib.hid ((((hI8.out.setCell hBI hDB 3 (.int .i64 x6)).setCell hBI hDB 4 (.int .i64 x7)).setCell hBI hDB 5 (.bool x8)).setRow hZI hDZ #[.int .i64 1, .int .i64 x2, .slice oa j oc, .int .i64 x6, .int .i64 x7, .bool x8, .int .i64 0, .int .i64 0, .int .i64 0, .int .i64 0, .int .i64 0, .bool false])
        have hSx := Lib.hid (Ma.ints_setrow (Ma.ints_setcell (Ma.ints_setcell (Ma.ints_setcell hii8.out fB.out 3 (.int .i64 x6)) fB.out 4 (.int .i64 x7)) fB.out 5 (.bool x8)) fZ.out #[.int .i64 1, .int .i64 x2, .slice oa j oc, .int .i64 x6, .int .i64 x7, .bool x8, .int .i64 0, .int .i64 0, .int .i64 0, .int .i64 0, .int .i64 0, .bool false])
        go_wp2_with (first
          | (refine wpList_load_row rfl 55 _ rfl B rfl 55 #[.int .i64 1, .int .i64 x2, .slice oa j oc, .int .i64 x6, .int .i64 x7, .bool x8, .int .i64 0, .int .i64 0, .int .i64 0, .int .i64 0, .int .i64 0, .bool false] (0, 0) _ hSb Try.underlying55 rfl Ma.info55 ?_)
          | (refine wpList_store_row rfl 55 _ _ rfl w.heap.size #[.int .i64 1, .int .i64 x2, .slice oa j oc, .int .i64 x6, .int .i64 x7, .bool x8, .int .i64 0, .int .i64 0, .int .i64 0, .int .i64 0, .int .i64 0, .bool false] rfl rfl 55 #[.int .i64 0, .int .i64 0, .slice none 0 0, .int .i64 0, .int .i64 0, .bool false, .int .i64 0, .int .i64 0, .int .i64 0, .int .i64 0, .int .i64 0, .bool false] hSz Ma.info55 rfl (by simp [Value.oneCell']) ?_))
        have hRD := rd_1 hJ1.out hJm.out (us := us) (by rw [hulh.out]; simp) (by omega) (r := x6) (w := x7) (b := x8) (L' := L8) (bad := b8) (by have := hJ8.out; simpa using this)
        rw [hulh.out] at hRD
        refine bodyPost_ret (results_cell_row (p := 2) (ty := 55) rfl _ _ w.heap.size 55 #[.int .i64 1, .int .i64 x2, .slice oa j oc, .int .i64 x6, .int .i64 x7, .bool x8, .int .i64 0, .int .i64 0, .int .i64 0, .int .i64 0, .int .i64 0, .bool false] (0, 0) _ (by rfl) (setRow_h _ _ _ _ _ _ hSz) Try.underlying55 rfl Ma.info55) rfl ⟨1, x2, x6, x7, 0, 0, 0, 0, 0, x8, false, oa, j, oc, (fun i => us.getD i 0), L8, b8, rfl, by omega, ⟨(by omega), (by omega), (by omega), (by omega), (by omega), (by omega), (by omega), (by omega)⟩, hSx.out, hon'.out, (fun p e => Nat.le_of_lt (fZ.out p e)), by omega, fun i hi => ?_, hRD, hSi.out, hSg.out⟩
        have hu := hub.out
        by_cases hl : i < us.length
        · have e : us.getD i 0 = us[i] := by simp [List.getD, hl]
          show us.getD i 0 < _
          rw [e]
          have := hu us[i] (List.getElem_mem hl)
          omega
        · rw [hulh.out] at hl
          exact absurd hi hl
  as_aux_lemma =>
    have hSb : w1.heap[B]? = some (.cells #[.int .i64 x1, .int .i64 0, .slice none 0 0, .int .i64 0, .int .i64 0, .bool false, .int .i64 0, .int .i64 0, .int .i64 0, .int .i64 0, .int .i64 0, .bool false] 55 (0, 0)) := hR1.out.b
    have hSz := hR1.out.z
    have hSg := Lib.hid (hR1.out.row #[.int .i64 x1, .int .i64 0, .slice none 0 0, .int .i64 0, .int .i64 0, .bool false, .int .i64 0, .int .i64 0, .int .i64 0, .int .i64 0, .int .i64 0, .bool false])
    have hSi := Lib.hid (hI1.out.setRow hZI hDZ #[.int .i64 x1, .int .i64 0, .slice none 0 0, .int .i64 0, .int .i64 0, .bool false, .int .i64 0, .int .i64 0, .int .i64 0, .int .i64 0, .int .i64 0, .bool false])
    go_wp2_with (first
      | (refine wpList_load_row rfl 55 _ rfl B rfl 55 #[.int .i64 x1, .int .i64 0, .slice none 0 0, .int .i64 0, .int .i64 0, .bool false, .int .i64 0, .int .i64 0, .int .i64 0, .int .i64 0, .int .i64 0, .bool false] (0, 0) _ hSb Try.underlying55 rfl Ma.info55 ?_)
      | (refine wpList_store_row rfl 55 _ _ rfl w.heap.size #[.int .i64 x1, .int .i64 0, .slice none 0 0, .int .i64 0, .int .i64 0, .bool false, .int .i64 0, .int .i64 0, .int .i64 0, .int .i64 0, .int .i64 0, .bool false] rfl rfl 55 #[.int .i64 0, .int .i64 0, .slice none 0 0, .int .i64 0, .int .i64 0, .bool false, .int .i64 0, .int .i64 0, .int .i64 0, .int .i64 0, .int .i64 0, .bool false] hSz Ma.info55 rfl (by simp [Value.oneCell']) ?_))
    refine bodyPost_ret (results_cell_row (p := 2) (ty := 55) rfl _ _ w.heap.size 55 #[.int .i64 x1, .int .i64 0, .slice none 0 0, .int .i64 0, .int .i64 0, .bool false, .int .i64 0, .int .i64 0, .int .i64 0, .int .i64 0, .int .i64 0, .bool false] (0, 0) _ (by rfl) (setRow_h _ _ _ _ _ _ hSz) Try.underlying55 rfl Ma.info55) rfl ⟨x1, 0, 0, 0, 0, 0, 0, 0, 0, false, false, none, 0, 0, fun _ => 0, L1, b1, rfl, by omega, ⟨(by omega), (by omega), (by omega), (by omega), (by omega), (by omega), (by omega), (by omega)⟩, nil_ints _ _ _, fun _ => rfl, (fun p e => by cases e), by omega, fun j hj => absurd hj (by omega), rd_0 g1 g2 g3 g4 g5 g6 g7 g8 hJ1.out, hSi.out, hSg.out⟩

end Go.Proofs.Ytnkgbigjpihfeaa.Kd
