/- The reader again, with where its bytes lie: nothing but its box changes as it reads. -/
import Derived.Test.YtnkgbigjpihfeaaKu
set_option linter.unusedVariables false
set_option linter.unusedSimpArgs false
namespace Go.Proofs.Ytnkgbigjpihfeaa.Kd
open Go.RowKit Go.Proofs.Ytnkgbigjpihfeaa.Lib

/-- Only block I is another. -/
structure Only (I : Nat) (w w' : World) : Prop where
  os : w'.os = w.os
  tape : w'.tape = w.tape
  output : w'.output = w.output
  size : w'.heap.size = w.heap.size
  block : ∀ k, k ≠ I → w'.heap[k]? = w.heap[k]?

theorem Only.refl (I : Nat) (w : World) : Only I w w := ⟨rfl, rfl, rfl, rfl, fun _ _ => rfl⟩
theorem Only.trans {I : Nat} {w w1 w2 : World} (h : Only I w w1) (k : Only I w1 w2) : Only I w w2 := ⟨k.os.trans h.os, k.tape.trans h.tape, k.output.trans h.output, k.size.trans h.size, fun i hi => (k.block i hi).trans (h.block i hi)⟩
theorem Only.below {I B : Nat} {w w' : World} (h : Only I w w') (hB : B ≤ I) : Below B w w' := ⟨h.os, h.tape, h.output, Nat.le_of_eq h.size.symm, fun k hk => h.block k (by omega)⟩
theorem Only.of {I : Nat} {w w' : World} (h : Below I w w') (hs : ∀ i, i ≠ I → w'.heap[i]? = w.heap[i]?) (hz : w'.heap.size = w.heap.size) : Only I w w' := ⟨h.os, h.tape, h.output, hz, hs⟩

/-- Block I is a reader, this is left, and lies below D. -/
def InD (w : World) (I : Nat) (L : List Int) (bad : Bool) (D : Nat) : Prop := ∃ a c, InAt w I a L.length c (gtD L) bad ∧ (0 < L.length → ∀ p, a = some p → p.block < D)

theorem InD.lt {w : World} {I D : Nat} {L : List Int} {bad : Bool} (h : InD w I L bad D) : I < w.heap.size := by
  obtain ⟨a, c, h, _⟩ := h
  exact h.lt
theorem InD.inL {w : World} {I D : Nat} {L : List Int} {bad : Bool} (h : InD w I L bad D) : InL w I L bad := by
  obtain ⟨a, c, h, _⟩ := h
  exact ⟨a, c, h⟩
theorem InD.okB {w : World} {I D : Nat} {L : List Int} {bad : Bool} (h : InD w I L bad D) : okB L := h.inL.okB
theorem InD.mono {w : World} {I D D' : Nat} {L : List Int} {bad : Bool} (h : InD w I L bad D) (hd : D ≤ D') : InD w I L bad D' := by
  obtain ⟨a, c, h, k⟩ := h
  exact ⟨a, c, h, fun hp p e => Nat.lt_of_lt_of_le (k hp p e) hd⟩
theorem InL.inD {w : World} {I : Nat} {L : List Int} {bad : Bool} (h : InL w I L bad) : InD w I L bad w.heap.size := by
  obtain ⟨a, c, h⟩ := h
  refine ⟨a, c, h, fun hp p e => ?_⟩
  obtain ⟨b, o, e2, hb, _⟩ := h.ints.2 hp
  rw [e] at e2
  cases e2
  exact hb
/-- What is done elsewhere. -/
theorem InD.keep {w w' : World} {I D : Nat} {L : List Int} {bad : Bool} (h : InD w I L bad D) (hs : w.heap.size ≤ w'.heap.size) (hk : ∀ k, k < w.heap.size → k = I ∨ k < D → w'.heap[k]? = w.heap[k]?) : InD w' I L bad D := by
  obtain ⟨a, c, h, k⟩ := h
  refine ⟨a, c, ⟨(hk I h.lt (Or.inl rfl)).trans h.box, ⟨h.ints.1, fun hp => ?_⟩, h.nil, h.room, h.far, h.wf⟩, k⟩
  obtain ⟨b, o, rfl, hb, hc⟩ := h.ints.2 hp
  exact ⟨b, o, rfl, Nat.lt_of_lt_of_le hb hs, fun j hj => (World.cell?_of_block (a := ⟨b, o + j, none⟩) (hk b hb (Or.inr (k hp _ rfl)))).trans (hc j hj)⟩
theorem InD.below {w w' : World} {I D : Nat} {L : List Int} {bad : Bool} (h : InD w I L bad D) (hb : Below w.heap.size w w') : InD w' I L bad D := h.keep hb.size (fun k hk _ => hb.block k hk)
theorem InD.alloc {w : World} {I D : Nat} {L : List Int} {bad : Bool} (h : InD w I L bad D) (o : Obj) : InD (w.alloc o) I L bad D := h.below ((Below.refl _ _).alloc (Nat.le_refl _) _)
theorem InD.setCell {w : World} {I D : Nat} {L : List Int} {bad : Bool} (h : InD w I L bad D) {B : Nat} (hI : B ≠ I) (hD : D ≤ B) (o : Nat) (v : Value) : InD (w.setCell ⟨B, o, none⟩ v) I L bad D :=
  h.keep (by simp) (fun k _ hk => heap_setCell_other w ⟨B, o, none⟩ k v (by show k ≠ B; omega))
theorem InD.setRow {w : World} {I D : Nat} {L : List Int} {bad : Bool} (h : InD w I L bad D) {B : Nat} (hI : B ≠ I) (hD : D ≤ B) (cs : Array Value) : InD (w.setRow B cs) I L bad D :=
  h.keep (by simp) (fun k _ hk => setRow_other w B k cs (by omega))

/-- What a reading leaves of the reader. -/
def rdD (w : World) (I : Nat) (L : List Int) (bad : Bool) (D : Nat) (w' : World) : Prop := InD w' I L bad D ∧ Only I w w'

/-- What take leaves, where there are so many: in the same block. -/
def takeD (w : World) (I n b : Nat) (F : Nat → Int) (k : Nat) (e : Ending) (w' : World) : Prop :=
  (∃ a1 c1, e = .returned (.slice a1 k c1) ∧ IntsAt w' .u8 a1 k F) ∧ (∃ o2 c2, InAt w' I (some ⟨b, o2, none⟩) (n - k) c2 (fun j => F (k + j)) false) ∧ Only I w w'

theorem takeD_end {w : World} {I b o n c k o2 c2 : Nat} {F : Nat → Int} (hx : InAt w I (some ⟨b, o, none⟩) n c F false) (hk : k ≤ n) (hk0 : 0 < k) (hb : b < w.heap.size) (hc : ∀ j, j < n → w.cell? ⟨b, o + j, none⟩ = some (.int .u8 (F j)))
    (h2 : o2 = o + k ∧ c2 = c - k ∨ n - k = 0 ∧ c2 = 0) : takeD w I n b F k (.returned (.slice (some ⟨b, o, none⟩) k k)) (w.setCell ⟨I, 0, none⟩ (.slice (some ⟨b, o2, none⟩) (n - k) c2)) := by
  have hbn := hx.ints.1
  have hroom := hx.room
  have h1 := heap_setCell_same w I 0 _ _ (.slice (some ⟨b, o2, none⟩) (n - k) c2) hx.box
  have hbI : ∀ i, i ≠ I → (w.setCell ⟨I, 0, none⟩ (.slice (some ⟨b, o2, none⟩) (n - k) c2)).heap[i]? = w.heap[i]? := fun i hi => heap_setCell_other w ⟨I, 0, none⟩ i _ hi
  have hbne := hx.far _ rfl
  refine ⟨⟨_, _, rfl, ⟨by omega, fun _ => ⟨b, o, rfl, by simpa using hb, fun j hj => (World.cell?_of_block (a := ⟨b, o + j, none⟩) (hbI b hbne)).trans (hc j (by omega))⟩⟩⟩, ⟨o2, c2, ?_⟩, ⟨rfl, rfl, rfl, by simp, hbI⟩⟩
  refine in_set hx h1 ⟨by omega, fun hp => ⟨b, o2, rfl, hb, fun j hj => ?_⟩⟩ hbI (by simp) (fun e => by cases e) (by omega) (fun p e => by cases e; exact hbne) (fun j hj => hx.wf _ (by omega))
  have := hc (k + j) (by omega)
  rcases h2 with ⟨rfl, _⟩ | ⟨h3, _⟩
  · rw [show o + k + j = o + (k + j) from by omega]
    exact this
  · omega

set_option maxRecDepth 100000 in
theorem takeD_ok {w : World} {I b o n c k : Nat} {F : Nat → Int} (h : InAt w I (some ⟨b, o, none⟩) n c F false) (hk : k ≤ n) (hk0 : 0 < k) :
    Calls Try.prog 69 #[.pointer (some ⟨I, 0, none⟩), .int .i64 k] w fun e w' => takeD w I n b F k e w' := by
  have hbn := h.ints.1
  obtain ⟨b', o', e, hb, hc⟩ := h.ints.2 (by omega)
  cases e
  have hroom := h.room
  have c0 : w.cell? ⟨I, 0, none⟩ = some (.slice (some ⟨b, o, none⟩) n c) := by simp [World.cell?, h.box]
  have c1 : w.cell? ⟨I, 1, none⟩ = some (.bool false) := by simp [World.cell?, h.box]
  have f0 : w.frozen? ⟨I, 0, none⟩ = false := by simp [World.frozen?, h.box]
  have hk1 : ¬ (k : Int) < 0 := by omega
  have hk2 : ¬ (n : Int) < k := by omega
  have hk3 : (k : Int) ≤ n := by omega
  have hk4 : (k : Int) ≤ c := by omega
  have hst := Lib.hid h
  replace hc := Lib.hid hc
  clear h
  go_enter Try.func69, Try.ntmps69
  go_wp2_with fail
  all_goals
    go_ret
    have hx := hst.out
    have hr := hx.room
    exact takeD_end hx hk hk0 hb hc.out (by omega)

/-- What number leaves. -/
def numD (w : World) (I n b : Nat) (F : Nat → Int) (k : Nat) (e : Ending) (w' : World) : Prop :=
  e = .returned (.int .u64 (leV F k)) ∧ (∃ o2 c2, InAt w' I (some ⟨b, o2, none⟩) (n - k) c2 (fun j => F (k + j)) false) ∧ Only I w w'

set_option maxRecDepth 100000 in
theorem numD_ok {w : World} {I b o n c k : Nat} {F : Nat → Int} (h : InAt w I (some ⟨b, o, none⟩) n c F false) (hk : k ≤ n) (hk0 : 0 < k) (hk8 : k ≤ 8) :
    Calls Try.prog 61 #[.pointer (some ⟨I, 0, none⟩), .int .i64 k] w fun e w' => numD w I n b F k e w' := by
  have H69 := Lib.hid (takeD_ok h hk hk0)
  have hwf := Lib.hid h.wf
  clear h
  go_enter Try.func61, Try.ntmps61
  go_wp2_with fail
  refine H69.out.mono ?_
  rintro e w1 ⟨⟨a1, c1, rfl, hi⟩, hrest⟩
  have hi := Lib.hid hi
  replace hrest := Lib.hid hrest
  go_wp2_with fail
  go_loopw [5, 12] (fun v i wr => ∃ j : Nat, j ≤ k ∧ i = .int .i64 j ∧ v = .int .u64 (leV F j) ∧ wr = w1) (fun _ i _ => k - (intOf i).toNat)
  case atStart => exact ⟨0, Nat.zero_le _, rfl, rfl, rfl⟩
  case round =>
    obtain ⟨j, hj, rfl, rfl, rfl⟩ := hrel
    by_cases hlt : j < k
    · obtain ⟨b', o', rfl, hb, hc⟩ := hi.out.2 (by omega)
      have cj := hc j hlt
      replace hc := Lib.hid hc
      have hlt' : (j : Int) < k := by omega
      have ho := or_step (F := F) (j := j) (by omega) (fun i hi => hwf.out i (by omega))
      go_wp2_with fail
      exact ⟨⟨j + 1, by omega, by go_num, by first | rfl | rw [ho], by trivial⟩, by simp [intOf]; omega⟩
    · obtain rfl : j = k := by omega
      have hlt' : ¬ (j : Int) < j := by omega
      go_wp2_with fail
      go_ret
      exact ⟨rfl, hrest.out⟩

theorem rdD_bad {w w' : World} {I D : Nat} (h : badPost w I w') : rdD w I [] true D w' := by
  refine ⟨?_, Only.of h.2.1 h.2.2.1 h.2.2.2⟩
  obtain ⟨a, c, q⟩ := InL.of (L := []) h.1 rfl (fun j hj => absurd hj (by omega))
  exact ⟨a, c, q, fun hp => absurd hp (by simp)⟩

theorem number_d {w : World} {I D : Nat} {L : List Int} {bad : Bool} (h : InD w I L bad D) (k : Nat) (hk0 : 0 < k) (hk8 : k ≤ 8) :
    Calls Try.prog 61 #[.pointer (some ⟨I, 0, none⟩), .int .i64 k] w fun e w' => e = .returned (.int .u64 (rdN L bad k).1) ∧ rdD w I (rdN L bad k).2.1 (rdN L bad k).2.2 D w' := by
  obtain ⟨a, c, h, hd⟩ := h
  by_cases hk : bad = true ∨ L.length < k
  · refine (number_bad h k (by rcases hk with e | e; exact Or.inl e; exact Or.inr (Or.inr (by omega)))).mono ?_
    rintro e w' ⟨rfl, hb⟩
    rw [show rdN L bad k = (0, [], true) from by unfold rdN; rw [if_pos hk]]
    exact ⟨rfl, rdD_bad hb⟩
  · have hb : bad = false := by cases bad <;> simp_all
    subst hb
    obtain ⟨b, o, rfl, hbb, _⟩ := h.ints.2 (by omega)
    refine (numD_ok h (by omega) hk0 hk8).mono ?_
    rintro e w' ⟨rfl, ⟨o2, c2, h2⟩, ho⟩
    rw [show rdN L false k = (leL (L.take k), L.drop k, false) from by unfold rdN; rw [if_neg hk]]
    refine ⟨by rw [leV_gtD L k (by omega)], ⟨some ⟨b, o2, none⟩, c2, ?_, fun _ p e => by cases e; exact hd (by omega) ⟨b, o, none⟩ rfl⟩, ho⟩
    have e1 : L.length - k = (L.drop k).length := by simp
    rw [e1] at h2
    exact ⟨h2.box, ints_congr h2.ints (fun j _ => (gtD_drop L k j).symm), h2.nil, h2.room, h2.far, fun j hj => by rw [gtD_drop]; exact h2.wf j hj⟩

theorem u8_d {w : World} {I D : Nat} {L : List Int} {bad : Bool} (h : InD w I L bad D) :
    Calls Try.prog 20 #[.pointer (some ⟨I, 0, none⟩)] w fun e w' => e = .returned (.int .i64 (rdN L bad 1).1) ∧ rdD w I (rdN L bad 1).2.1 (rdN L bad 1).2.2 D w' := by
  have H := Lib.hid (number_d h 1 (by omega) (by omega))
  have hl := rdN_lt (bad := bad) (k := 1) h.okB
  have hp : (256 : Int) ^ 1 = 256 := by decide
  rw [hp] at hl
  clear h hp
  generalize rdN L bad 1 = r at *
  have hw : wrap64 r.1 = r.1 := by unfold wrap64; omega
  go_enter Try.func20, Try.ntmps20
  go_wp2_with fail
  refine H.out.mono ?_
  rintro e w1 ⟨rfl, h1⟩
  have h1 := Lib.hid h1
  go_wp2_with fail
  go_ret
  exact ⟨by simp [hw], h1.out⟩

theorem u16_d {w : World} {I D : Nat} {L : List Int} {bad : Bool} (h : InD w I L bad D) :
    Calls Try.prog 30 #[.pointer (some ⟨I, 0, none⟩)] w fun e w' => e = .returned (.int .i64 (rdN L bad 2).1) ∧ rdD w I (rdN L bad 2).2.1 (rdN L bad 2).2.2 D w' := by
  have H := Lib.hid (number_d h 2 (by omega) (by omega))
  have hl := rdN_lt (bad := bad) (k := 2) h.okB
  have hp : (256 : Int) ^ 2 = 65536 := by decide
  rw [hp] at hl
  clear h hp
  generalize rdN L bad 2 = r at *
  have hw : wrap64 r.1 = r.1 := by unfold wrap64; omega
  go_enter Try.func30, Try.ntmps30
  go_wp2_with fail
  refine H.out.mono ?_
  rintro e w1 ⟨rfl, h1⟩
  have h1 := Lib.hid h1
  go_wp2_with fail
  go_ret
  exact ⟨by simp [hw], h1.out⟩

theorem u32_d {w : World} {I D : Nat} {L : List Int} {bad : Bool} (h : InD w I L bad D) :
    Calls Try.prog 31 #[.pointer (some ⟨I, 0, none⟩)] w fun e w' => e = .returned (.int .i64 (rdN L bad 4).1) ∧ rdD w I (rdN L bad 4).2.1 (rdN L bad 4).2.2 D w' := by
  have H := Lib.hid (number_d h 4 (by omega) (by omega))
  have hl := rdN_lt (bad := bad) (k := 4) h.okB
  have hp : (256 : Int) ^ 4 = 4294967296 := by decide
  rw [hp] at hl
  clear h hp
  generalize rdN L bad 4 = r at *
  have hw : wrap64 r.1 = r.1 := by unfold wrap64; omega
  go_enter Try.func31, Try.ntmps31
  go_wp2_with fail
  refine H.out.mono ?_
  rintro e w1 ⟨rfl, h1⟩
  have h1 := Lib.hid h1
  go_wp2_with fail
  go_ret
  exact ⟨by simp [hw], h1.out⟩

theorem i64_d {w : World} {I D : Nat} {L : List Int} {bad : Bool} (h : InD w I L bad D) :
    Calls Try.prog 32 #[.pointer (some ⟨I, 0, none⟩)] w fun e w' => e = .returned (.int .i64 (wrap64 (rdN L bad 8).1)) ∧ rdD w I (rdN L bad 8).2.1 (rdN L bad 8).2.2 D w' := by
  have H := Lib.hid (number_d h 8 (by omega) (by omega))
  clear h
  generalize rdN L bad 8 = r at *
  go_enter Try.func32, Try.ntmps32
  go_wp2_with fail
  refine H.out.mono ?_
  rintro e w1 ⟨rfl, h1⟩
  have h1 := Lib.hid h1
  go_wp2_with fail
  go_ret
  exact ⟨by simp, h1.out⟩

theorem fail_d {w : World} {I D : Nat} {L : List Int} {bad : Bool} (h : InD w I L bad D) :
    Calls Try.prog 60 #[.pointer (some ⟨I, 0, none⟩)] w fun e w' => e = .returned (.tuple #[]) ∧ rdD w I [] true D w' := by
  obtain ⟨a, c, h, _⟩ := h
  refine (fail_any h).mono ?_
  rintro e w' ⟨rfl, hb⟩
  exact ⟨rfl, rdD_bad hb⟩

theorem rdD.trans {w w1 w2 : World} {I D : Nat} {L L2 : List Int} {b b2 : Bool} (h : rdD w I L b D w1) (k : rdD w1 I L2 b2 D w2) : rdD w I L2 b2 D w2 := ⟨k.1, h.2.trans k.2⟩

theorem flag_d {w : World} {I D : Nat} {L : List Int} {bad : Bool} (h : InD w I L bad D) :
    Calls Try.prog 33 #[.pointer (some ⟨I, 0, none⟩)] w fun e w' => e = .returned (.bool (rdF L bad).1) ∧ rdD w I (rdF L bad).2.1 (rdF L bad).2.2 D w' := by
  have H := Lib.hid (u8_d h)
  clear h
  unfold rdF
  generalize rdN L bad 1 = r at *
  by_cases hr : 1 < r.1
  · have hr1 : ¬ r.1 = 1 := by omega
    rw [if_pos hr]
    go_enter Try.func33, Try.ntmps33
    go_wp2_with fail
    refine H.out.mono ?_
    rintro e w1 ⟨rfl, h1⟩
    have H60 := Lib.hid (fail_d h1.1)
    have h1 := Lib.hid h1
    go_wp2_with fail
    refine H60.out.mono ?_
    rintro e w2 ⟨rfl, h2⟩
    replace h2 := Lib.hid h2
    go_wp2_with fail
    go_ret
    exact ⟨by simp [hr1], h1.out.trans h2.out⟩
  · rw [if_neg hr]
    go_enter Try.func33, Try.ntmps33
    go_wp2_with fail
    refine H.out.mono ?_
    rintro e w1 ⟨rfl, h1⟩
    have h1 := Lib.hid h1
    go_wp2_with fail
    go_ret
    exact ⟨by simp; rfl, h1.out⟩

/-- What a number that is at most m is, and what it leaves. -/
def rdM (L : List Int) (bad : Bool) (m : Int) : Int × List Int × Bool := if m < (rdN L bad 2).1 then (0, [], true) else rdN L bad 2

theorem most_d {w : World} {I D : Nat} {L : List Int} {bad : Bool} (h : InD w I L bad D) (m : Int) :
    Calls Try.prog 17 #[.pointer (some ⟨I, 0, none⟩), .int .i64 m] w fun e w' => e = .returned (.int .i64 (rdM L bad m).1) ∧ rdD w I (rdM L bad m).2.1 (rdM L bad m).2.2 D w' := by
  have H := Lib.hid (u16_d h)
  clear h
  unfold rdM
  generalize rdN L bad 2 = r at *
  by_cases hr : m < r.1
  · rw [if_pos hr]
    go_enter Try.func17, Try.ntmps17
    go_wp2_with fail
    refine H.out.mono ?_
    rintro e w1 ⟨rfl, h1⟩
    have H60 := Lib.hid (fail_d h1.1)
    have h1 := Lib.hid h1
    go_wp2_with fail
    refine H60.out.mono ?_
    rintro e w2 ⟨rfl, h2⟩
    replace h2 := Lib.hid h2
    go_wp2_with fail
    go_ret
    exact ⟨rfl, h1.out.trans h2.out⟩
  · rw [if_neg hr]
    go_enter Try.func17, Try.ntmps17
    go_wp2_with fail
    refine H.out.mono ?_
    rintro e w1 ⟨rfl, h1⟩
    have h1 := Lib.hid h1
    go_wp2_with fail
    go_ret
    exact ⟨rfl, h1.out⟩

end Go.Proofs.Ytnkgbigjpihfeaa.Kd
