/- The codec's laws: awake; CodecMost. -/
import Derived.Test.YtnkgbigjpihfeaaKi
set_option linter.unusedVariables false
set_option linter.unusedSimpArgs false
namespace Go.Proofs.Ytnkgbigjpihfeaa.Kd
open Go.RowKit Go.Proofs.Ytnkgbigjpihfeaa.Lib

theorem number_bad {w : World} {I : Nat} {a : Option Addr} {n c : Nat} {F : Nat → Int} {bad : Bool} (h : InAt w I a n c F bad) (k : Int) (hk : bad = true ∨ k < 0 ∨ (n : Int) < k) :
    Calls Try.prog 61 #[.pointer (some ⟨I, 0, none⟩), .int .i64 k] w fun e w' => e = .returned (.int .u64 0) ∧ badPost w I w' := by
  have H69 := Lib.hid (take_bad h k hk)
  clear h hk
  go_enter Try.func61, Try.ntmps61
  go_wp2_with fail
  refine H69.out.mono ?_
  rintro e w1 ⟨rfl, hb⟩
  have hb := Lib.hid hb
  go_wp2_with fail
  refine wp_loop_rounds 1 ?_
  rw [rounds_succ]
  go_wp2_with fail
  go_ret
  exact ⟨rfl, hb.out⟩

/-- What a number's reading leaves. -/
def inIntPost (w : World) (I n : Nat) (F : Nat → Int) (k : Nat) (e : Ending) (w' : World) : Prop :=
  e = .returned (.int .i64 (leV F k)) ∧ (∃ a2 c2, InAt w' I a2 (n - k) c2 (fun j => F (k + j)) false) ∧ Below I w w' ∧ (∀ i, i ≠ I → w'.heap[i]? = w.heap[i]?) ∧ w'.heap.size = w.heap.size

theorem inU16_ok {w : World} {I : Nat} {a : Option Addr} {n c : Nat} {F : Nat → Int} (h : InAt w I a n c F false) (hk : 2 ≤ n) :
    Calls Try.prog 30 #[.pointer (some ⟨I, 0, none⟩)] w fun e w' => inIntPost w I n F 2 e w' := by
  have H := Lib.hid (number_ok h hk (by omega) (by omega))
  have hb := leV_bounds (F := F) (k := 2) (fun j hj => h.wf j (by omega))
  have h2 : (256 : Int) ^ 2 = 65536 := by decide
  have hw : wrap64 (leV F 2) = leV F 2 := by unfold wrap64; omega
  clear h hb h2
  go_enter Try.func30, Try.ntmps30
  go_wp2_with fail
  refine H.out.mono ?_
  rintro e w1 ⟨rfl, hr⟩
  have hr := Lib.hid hr
  go_wp2_with fail
  go_ret
  exact ⟨by simp [hw], hr.out⟩

theorem inU16_bad {w : World} {I : Nat} {a : Option Addr} {n c : Nat} {F : Nat → Int} {bad : Bool} (h : InAt w I a n c F bad) (hk : bad = true ∨ n < 2) :
    Calls Try.prog 30 #[.pointer (some ⟨I, 0, none⟩)] w fun e w' => e = .returned (.int .i64 0) ∧ badPost w I w' := by
  have H := Lib.hid (number_bad h 2 (by rcases hk with e | e; exact Or.inl e; exact Or.inr (Or.inr (by omega))))
  clear h
  go_enter Try.func30, Try.ntmps30
  go_wp2_with fail
  refine H.out.mono ?_
  rintro e w1 ⟨rfl, hr⟩
  have hr := Lib.hid hr
  go_wp2_with fail
  go_ret
  exact ⟨rfl, hr.out⟩

theorem inU8_bad {w : World} {I : Nat} {a : Option Addr} {n c : Nat} {F : Nat → Int} {bad : Bool} (h : InAt w I a n c F bad) (hk : bad = true ∨ n < 1) :
    Calls Try.prog 20 #[.pointer (some ⟨I, 0, none⟩)] w fun e w' => e = .returned (.int .i64 0) ∧ badPost w I w' := by
  have H := Lib.hid (number_bad h 1 (by rcases hk with e | e; exact Or.inl e; exact Or.inr (Or.inr (by omega))))
  clear h
  go_enter Try.func20, Try.ntmps20
  go_wp2_with fail
  refine H.out.mono ?_
  rintro e w1 ⟨rfl, hr⟩
  have hr := Lib.hid hr
  go_wp2_with fail
  go_ret
  exact ⟨rfl, hr.out⟩

theorem badPost.trans {w w1 w2 : World} {I : Nat} (h : badPost w I w1) (k : badPost w1 I w2) : badPost w I w2 :=
  ⟨k.1, h.2.1.trans k.2.1, fun i hi => (k.2.2.1 i hi).trans (h.2.2.1 i hi), k.2.2.2.trans h.2.2.2⟩

theorem most_bad {w : World} {I : Nat} {a : Option Addr} {n c : Nat} {F : Nat → Int} {bad : Bool} (h : InAt w I a n c F bad) (hk : bad = true ∨ n < 2) (m : Int) :
    Calls Try.prog 17 #[.pointer (some ⟨I, 0, none⟩), .int .i64 m] w fun e w' => e = .returned (.int .i64 0) ∧ badPost w I w' := by
  have H := Lib.hid (inU16_bad h hk)
  clear h hk
  by_cases h0 : m < 0
  · go_enter Try.func17, Try.ntmps17
    go_wp2_with fail
    refine H.out.mono ?_
    rintro e w1 ⟨rfl, hr⟩
    have hr := Lib.hid hr
    go_wp2_with fail
    refine (fail_any hr.out.1).mono ?_
    rintro e w2 ⟨rfl, hr2⟩
    have hr2 := Lib.hid hr2
    go_wp2_with fail
    go_ret
    exact ⟨rfl, hr.out.trans hr2.out⟩
  · go_enter Try.func17, Try.ntmps17
    go_wp2_with fail
    refine H.out.mono ?_
    rintro e w1 ⟨rfl, hr⟩
    have hr := Lib.hid hr
    go_wp2_with fail
    go_ret
    exact ⟨rfl, hr.out⟩

theorem most_over {w : World} {I : Nat} {a : Option Addr} {n c : Nat} {F : Nat → Int} (h : InAt w I a n c F false) (hk : 2 ≤ n) (m : Int) (hm : m < leV F 2) :
    Calls Try.prog 17 #[.pointer (some ⟨I, 0, none⟩), .int .i64 m] w fun e w' => e = .returned (.int .i64 0) ∧ badPost w I w' := by
  have H := Lib.hid (inU16_ok h hk)
  clear h hk
  unfold inIntPost at H
  generalize leV F 2 = V at *
  go_enter Try.func17, Try.ntmps17
  go_wp2_with fail
  refine H.out.mono ?_
  rintro e w1 ⟨rfl, ⟨a2, c2, hi⟩, hb, hk, hs⟩
  have hf := Lib.hid (fail_any hi)
  replace hk := Lib.hid hk
  replace hi := Lib.hid hi
  replace hb := Lib.hid hb
  replace hs := Lib.hid hs
  go_wp2_with fail
  refine hf.out.mono ?_
  rintro e w2 ⟨rfl, hr2⟩
  have hr2 := Lib.hid hr2
  go_wp2_with fail
  go_ret
  have hr2 := hr2.out
  exact ⟨rfl, hr2.1, hb.out.trans hr2.2.1, fun i hi => (hr2.2.2.1 i hi).trans (hk.out i hi), hr2.2.2.2.trans hs.out⟩

theorem most_ok {w : World} {I : Nat} {a : Option Addr} {n c : Nat} {F : Nat → Int} (h : InAt w I a n c F false) (hk : 2 ≤ n) (m : Int) (hm : ¬ m < leV F 2) :
    Calls Try.prog 17 #[.pointer (some ⟨I, 0, none⟩), .int .i64 m] w fun e w' => inIntPost w I n F 2 e w' := by
  have H := Lib.hid (inU16_ok h hk)
  clear h hk
  unfold inIntPost at H ⊢
  generalize leV F 2 = V at *
  go_enter Try.func17, Try.ntmps17
  go_wp2_with fail
  refine H.out.mono ?_
  rintro e w1 ⟨rfl, hr⟩
  have hr := Lib.hid hr
  go_wp2_with fail
  go_ret
  exact ⟨by simp, hr.out⟩

/-- What the document's number has reckoned, st bytes to come. -/
def hornV (F : Nat → Int) : Nat → Int
  | 0 => F 1 * 256 + F 0
  | 1 => F 1
  | _ => 0

theorem refNumber2 {w : World} {a : Option Addr} {c : Nat} {F : Nat → Int} (h : IntsAt w .u8 a 2 F) (hF : ∀ j, j < 2 → 0 ≤ F j ∧ F j < 256) :
    Calls Try.prog 18 #[.slice a 2 c] w fun e w' => e = .returned (.int .u64 (leV F 2)) ∧ w' = w := by
  obtain ⟨b, o, rfl, hb, hc⟩ := h.2 (by omega)
  have c0 : w.cell? ⟨b, o, none⟩ = some (.int .u8 (F 0)) := hc 0 (by omega)
  have c1 : w.cell? ⟨b, o + 1, none⟩ = some (.int .u8 (F 1)) := hc 1 (by omega)
  have h0 := hF 0 (by omega)
  have h1 := hF 1 (by omega)
  have hv : Hid (leV F 2 = hornV F 0) := Lib.hid (by simp [leV, hornV]; omega)
  have hh : hornV F 0 = F 1 * 256 + F 0 := rfl
  rw [hv.out, hh]
  clear h hc hF hv hh
  generalize F 0 = f0 at *
  generalize F 1 = f1 at *
  have w1 : f1 % 18446744073709551616 = f1 := by omega
  have w0 : f0 % 18446744073709551616 = f0 := by omega
  have w2 : (f1 * 256) % 18446744073709551616 = f1 * 256 := by omega
  have w3 : (f1 * 256 + f0) % 18446744073709551616 = f1 * 256 + f0 := by omega
  go_enter Try.func18, Try.ntmps18
  go_wp2_with fail
  refine wp_loop_rounds 3 ?_
  rw [rounds_succ]
  go_wp2_with fail
  rw [rounds_succ]
  go_wp2_with fail
  rw [rounds_succ]
  go_wp2_with fail
  go_ret
  exact ⟨by simp, rfl⟩

/-- What End leaves. -/
def endPost (w : World) (l : List Int) (e : Ending) (w' : World) : Prop :=
  ∃ a c, e = .returned (.tuple #[.slice a l.length c, .int .i64 0]) ∧ IntsAt w' .u8 a l.length (fun j => l.getD j 0) ∧ (a = none → l.length = 0) ∧ Below w.heap.size w w'

theorem end_ok {w : World} {O : Nat} {v : Value} {l : List Int} (h : OutAt w O v l false) (hl : l.length ≤ 1000000) :
    Calls Try.prog 28 #[.pointer (some ⟨O, 0, none⟩)] w fun e w' => endPost w l e w' := by
  have hv : ∃ a c, v = .slice a l.length c ∧ IntsAt w .u8 a l.length (fun j => l.getD j 0) ∧ (a = none → l.length = 0) := by
    rcases h.row.2 with ⟨rfl, h0⟩ | ⟨g, cap, cur, rfl, hb, hg, hnc, hcm, hcs, ht⟩
    · exact ⟨none, 0, by rw [h0], ⟨by omega, fun hp => absurd hp (by omega)⟩, fun _ => h0⟩
    · refine ⟨_, cap, rfl, ⟨by omega, fun hp => ⟨g, 0, rfl, (Array.getElem?_eq_some_iff.1 hg).1, fun j hj => ?_⟩⟩, fun e => by cases e⟩
      have := h.row.cellAt j (by omega)
      simpa [bts, List.getD, hj] using this
  obtain ⟨a, c, rfl, hi, hn⟩ := hv
  have c0 : w.cell? ⟨O, 0, none⟩ = some (.slice a l.length c) := by simp [World.cell?, h.box]
  have c1 : w.cell? ⟨O, 1, none⟩ = some (.bool false) := by simp [World.cell?, h.box]
  have H59 := Lib.hid (bclone_any (c := c) hi hn (by omega))
  clear h hi
  go_enter Try.func28, Try.ntmps28
  go_wp2_with fail
  refine H59.out.mono ?_
  rintro e w1 ⟨a2, c2, rfl, h1, h2, h3, h4, h5, h6⟩
  have h1 := Lib.hid h1
  replace h2 := Lib.hid h2
  replace h6 := Lib.hid h6
  clear h3 h4 h5
  go_wp2_with fail
  go_ret2
  exact ⟨a2, c2, by simp, h1.out, fun e => (h2.out e).1, h6.out⟩

set_option maxRecDepth 100000 in
set_option maxHeartbeats 1600000 in
theorem awake02 (w : World) : Calls Try.prog 15 #[] w fun e w' => e = .returned (.bool true) ∧ Below w.heap.size w w' := by
  go_enter Try.func15, Try.ntmps15
  go_wp2_with fail
  have h0 : OutAt (w.alloc (.cells #[.slice none 0 0, .bool false] 39)) w.heap.size (.slice none 0 0) [] false := ⟨heap_alloc_new _ _, World.ownsRow_nil _ _ _ _⟩
  have hb0 := (Below.refl w.heap.size w).alloc (Nat.le_refl _) (.cells #[.slice none 0 0, .bool false] 39)
  have H58 := Lib.hid (u16_ok h0 258 (by decide) (by decide))
  replace hb0 := Lib.hid hb0
  clear h0
  generalize w.alloc (.cells #[.slice none 0 0, .bool false] 39) = wa at *
  generalize hO : w.heap.size = O at *
  refine H58.out.mono ?_
  rintro e w1 ⟨rfl, ⟨v1, h1⟩, b1⟩
  have hE : ([] : List Int) ++ leB 258 2 = [2, 1] := by decide
  rw [hE] at h1
  have hb1 := Lib.hid (hb0.out.trans b1)
  have H28 := Lib.hid (end_ok h1 (by decide))
  clear h1 b1 hb0 H58 hE
  go_wp2_with fail
  refine H28.out.mono ?_
  rintro e w2 ⟨a2, c2, rfl, hi, hn, b2⟩
  have hs1 := hb1.out.size
  have hsO : O ≤ w1.heap.size := by omega
  have hb2 := Lib.hid (hb1.out.trans (b2.mono hsO))
  have hs2 := b2.size
  obtain ⟨b, o, rfl, hbb, hc⟩ := hi.2 (by decide)
  have cb : w2.cell? ⟨b, o, none⟩ = some (.int .u8 2) := hc 0 (by decide)
  have H16 := Lib.hid (newIn_any (c := c2) hi (fun e => by cases e) (by decide) (fun j hj => by
    have hj' : j < 2 := hj
    have : j = 0 ∨ j = 1 := by omega
    rcases this with rfl | rfl <;> decide))
  clear hi hc hn b2 H28 hb1
  go_wp2_with fail
  refine H16.out.mono ?_
  rintro e w3 ⟨I, a3, c3, rfl, h3, hI, _, b3⟩
  have H30 := Lib.hid (inU16_ok h3 (by decide))
  have hb3 := Lib.hid (hb2.out.trans (b3.mono (by omega)))
  have hs3 := b3.size
  clear h3 b3 H16 hb2 cb
  have hV : leV (fun j => [(2 : Int), 1].getD j 0) 2 = 258 := by decide
  unfold inIntPost at H30
  rw [hV] at H30
  go_wp2_with fail
  refine H30.out.mono ?_
  rintro e w4 ⟨rfl, _, b4, _⟩
  replace b4 := Lib.hid b4
  go_wp2_with fail
  go_ret
  refine ⟨rfl, ?_⟩
  rw [hO]
  exact hb3.out.trans (b4.out.mono (by omega))

set_option maxRecDepth 100000 in
set_option maxHeartbeats 1600000 in
theorem codecMost_walk (a : Option Addr) (n c : Nat) (F : Nat → Int) (m : Int) (W : World) (h : IntsAt W .u8 a n F) (ha : a = none → n = 0) (hnc : n ≤ c) (hF : ∀ j, j < n → 0 ≤ F j ∧ F j < 256) :
    Calls Try.prog 3 #[.slice a n c, .int .i64 m] W fun e w' => e = .returned (.bool true) ∧ Below W.heap.size W w' := by
  have hbig := h.1
  have H15 : Hid (∀ w', Calls Try.prog 15 #[] w' fun e w'' => e = .returned (.bool true) ∧ Below w'.heap.size w' w'') := Lib.hid awake02
  have H := Lib.hid h
  replace hF := Lib.hid hF
  replace ha := Lib.hid ha
  clear h
  by_cases hn : 100 < n
  · have hn' : (100 : Int) < n := by omega
    go_enter Try.func3, Try.ntmps3
    go_wp2_with fail
    refine (H15.out W).mono ?_
    rintro e w1 ⟨rfl, b1⟩
    go_wp2_with fail
    refine (H15.out _).mono ?_
    rintro e w2 ⟨rfl, b2⟩
    go_wp2_with fail
    go_ret
    exact ⟨rfl, b1.trans (b2.mono b1.size)⟩
  have hn' : ¬ (100 : Int) < n := by omega
  have hV := Lib.hid (fun h2 : 2 ≤ n => leV_bounds (F := F) (k := 2) (fun j hj => hF.out j (by omega)))
  by_cases h2 : n < 2
  · have h2' : (n : Int) < 2 := by omega
    go_enter Try.func3, Try.ntmps3
    go_wp2_with fail
    refine (H15.out W).mono ?_
    rintro e w1 ⟨rfl, b1⟩
    have H16 := Lib.hid (newIn_any (c := c) (H.out.below b1) ha.out (by omega) hF.out)
    replace b1 := Lib.hid b1
    go_wp2_with fail
    refine H16.out.mono ?_
    rintro e w2 ⟨I, a2, c2, rfl, h2i, hI, _, b2⟩
    have hs1 := b1.out.size
    have hb2 := Lib.hid (b1.out.trans (b2.mono hs1))
    have H17 := Lib.hid (most_bad h2i (Or.inr h2) m)
    clear h2i b2 H16
    go_wp2_with fail
    refine H17.out.mono ?_
    rintro e w3 ⟨rfl, hb3⟩
    have H19 := Lib.hid (bad_any hb3.1)
    have H20 := Lib.hid (inU8_bad hb3.1 (Or.inl rfl))
    replace hb3 := Lib.hid hb3
    go_wp2_with fail
    refine H19.out.mono ?_
    rintro e w4 ⟨rfl, rfl⟩
    go_wp2_with fail
    refine H20.out.mono ?_
    rintro e w5 ⟨rfl, hb5⟩
    replace hb5 := Lib.hid hb5
    go_wp2_with fail
    go_ret
    exact ⟨rfl, (hb2.out.trans (hb3.out.2.1.mono (by omega))).trans (hb5.out.2.1.mono (by omega))⟩
  · have h2' : ¬ (n : Int) < 2 := by omega
    have h256 : (256 : Int) ^ 2 = 65536 := by decide
    have hVb := hV.out (by omega)
    rw [h256] at hVb
    have hw : wrap64 (leV F 2) = leV F 2 := by unfold wrap64; omega
    have hVm : leV F 2 % 18446744073709551616 = leV F 2 := by omega
    have hN : ∀ (w : World) (c' : Nat), Below W.heap.size W w → Calls Try.prog 18 #[.slice a 2 c'] w fun e w' => e = .returned (.int .u64 (leV F 2)) ∧ w' = w := fun w c' b => refNumber2 (c := c') ⟨by omega, fun _ => by
      obtain ⟨b0, o0, e0, h0, h1⟩ := (H.out.below b).2 (by omega)
      exact ⟨b0, o0, e0, h0, fun j hj => h1 j (by omega)⟩⟩ (fun j hj => hF.out j (by omega))
    replace hN := Lib.hid hN
    have hn2 : (2 : Int) ≤ n := by omega
    have hc2 : (2 : Int) ≤ c := by omega
    clear hV h256
    by_cases hm : m < leV F 2
    · go_enter Try.func3, Try.ntmps3
      go_wp2_with fail
      refine (H15.out W).mono ?_
      rintro e w1 ⟨rfl, b1⟩
      have H16 := Lib.hid (newIn_any (c := c) (H.out.below b1) ha.out (by omega) hF.out)
      replace b1 := Lib.hid b1
      go_wp2_with fail
      refine H16.out.mono ?_
      rintro e w2 ⟨I, a2, c2, rfl, h2i, hI, _, b2⟩
      have hs1 := b1.out.size
      have hb2 := Lib.hid (b1.out.trans (b2.mono hs1))
      have H17 := Lib.hid (most_over h2i (by omega) m hm)
      clear h2i b2 H16
      go_wp2_with fail
      refine H17.out.mono ?_
      rintro e w3 ⟨rfl, hb3⟩
      have H19 := Lib.hid (bad_any hb3.1)
      have H20 := Lib.hid (inU8_bad hb3.1 (Or.inl rfl))
      have hb23 := Lib.hid (hb2.out.trans (hb3.2.1.mono (by omega)))
      replace hb3 := Lib.hid hb3
      go_wp2_with fail
      refine (hN.out _ _ hb23.out).mono ?_
      rintro e w4 ⟨rfl, rfl⟩
      go_wp2_with fail
      refine H19.out.mono ?_
      rintro e w4 ⟨rfl, rfl⟩
      go_wp2_with fail
      refine H20.out.mono ?_
      rintro e w5 ⟨rfl, hb5⟩
      replace hb5 := Lib.hid hb5
      go_wp2_with fail
      go_ret
      exact ⟨rfl, hb23.out.trans (hb5.out.2.1.mono (by omega))⟩
    · go_enter Try.func3, Try.ntmps3
      go_wp2_with fail
      refine (H15.out W).mono ?_
      rintro e w1 ⟨rfl, b1⟩
      have H16 := Lib.hid (newIn_any (c := c) (H.out.below b1) ha.out (by omega) hF.out)
      replace b1 := Lib.hid b1
      go_wp2_with fail
      refine H16.out.mono ?_
      rintro e w2 ⟨I, a2, c2, rfl, h2i, hI, _, b2⟩
      have hs1 := b1.out.size
      have hb2 := Lib.hid (b1.out.trans (b2.mono hs1))
      have H17 := Lib.hid (most_ok h2i (by omega) m (by omega))
      clear h2i b2 H16
      go_wp2_with fail
      refine H17.out.mono ?_
      rintro e w3 ⟨rfl, ⟨a4, c4, hi4⟩, hb3, _⟩
      have H19 := Lib.hid (bad_any hi4)
      have H21 := Lib.hid (left_any hi4)
      have hb23 := Lib.hid (hb2.out.trans (hb3.mono (by omega)))
      clear hi4 hb3 H17
      have hnl : ((n - 2 : Nat) : Int) = n - 2 := by omega
      go_wp2_with fail
      refine (hN.out _ _ hb23.out).mono ?_
      rintro e w4 ⟨rfl, rfl⟩
      go_wp2_with fail
      refine (hN.out _ _ hb23.out).mono ?_
      rintro e w4 ⟨rfl, rfl⟩
      go_wp2_with fail
      refine H19.out.mono ?_
      rintro e w4 ⟨rfl, rfl⟩
      go_wp2_with fail
      refine H21.out.mono ?_
      rintro e w5 ⟨rfl, rfl⟩
      go_wp2_with fail
      go_ret
      exact ⟨rfl, hb23.out⟩

theorem wf_bounds {n : Nat} {F : Nat → Int} (h : ∀ j, j < n → (Lit.int .u8 (F j)).wf = true) : ∀ j, j < n → 0 ≤ F j ∧ F j < 256 := fun j hj => by
  have := h j hj
  simp [Lit.wf, IntKind.min, IntKind.max, IntKind.signed, IntKind.bits] at this
  omega

end Go.Proofs.Ytnkgbigjpihfeaa.Kd
