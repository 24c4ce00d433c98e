/- What is read, against what was wanted: the law's read. -/
import Derived.Test.YtnkgbigjpihfeaaKx
set_option linter.unusedVariables false
set_option linter.unusedSimpArgs false
namespace Go.Proofs.Ytnkgbigjpihfeaa.Kd
open Go.RowKit Go.Proofs.Ytnkgbigjpihfeaa.Lib

/-- What reading an item's kind gives and leaves is what was wanted. -/
structure RdOk (k v : Int) (L : List Int) (bad : Bool) (n : Int) (D : List Int) (L' : List Int) (bad' : Bool) : Prop where
  r0 : k = 0 → rdN L bad 1 = (n, L', bad')
  r1 : k = 1 → rdN L bad 2 = (n, L', bad')
  r2 : k = 2 → rdN L bad 4 = (n, L', bad')
  r3 : k = 3 → rdN L bad 8 = (n, L', bad')
  r4 : k = 4 → rdF L bad = (decide (n = 1), L', bad')
  r5 : k = 5 → rdB L bad = (D, L', bad')
  r6 : ¬ (k = 0 ∨ k = 1 ∨ k = 2 ∨ k = 3 ∨ k = 4 ∨ k = 5) → rdT L bad v = (D, L', bad')

/-- Bytes were given, M; L' is left, or it is bad. -/
def got2 (w : World) (I : Nat) (L' : List Int) (bad' : Bool) (M : List Int) (e : Ending) (w' : World) : Prop := ∃ a c, e = .returned (.slice a M.length c) ∧ IntsAt w' .u8 a M.length (gtD M) ∧ rdLeft w I L' bad' w'

theorem got2_of {w w' : World} {I : Nat} {M L' : List Int} {bad' : Bool} {e : Ending} {base : Nat} (h : givesNew base w' M e) (k : rdLeft w I L' bad' w') : got2 w I L' bad' M e w' := by
  obtain ⟨a, c, rfl, hi, _⟩ := h
  exact ⟨a, c, rfl, hi, k⟩

theorem bytes_sameL {w : World} {a1 a2 : Option Addr} {n m c d : Nat} {M : List Int} (h1 : IntsAt w .u8 a1 n (gtD M)) (h2 : IntsAt w .u8 a2 m (gtD M)) (e1 : n = M.length) (e2 : m = M.length) :
    Calls Try.prog 29 #[.slice a1 n c, .slice a2 m d] w fun e w' => e = .returned (.bool true) ∧ ∃ q, w' = w.drewN q := by
  subst e1
  subst e2
  exact bytes_same h1 h2

set_option maxRecDepth 100000 in
set_option maxHeartbeats 1600000 in
theorem read_r {w : World} {I : Nat} {L L' D : List Int} {bad bad' bq : Bool} {t : It} {n : Int} {aD : Option Addr} {nD cD : Nat} (h : InL w I L bad) (k0 : 0 ≤ t.k) (k1 : t.k < 256) (hL : L.length ≤ 1000000) (hn : 0 ≤ n ∧ n < 18446744073709551616)
    (hD : IntsAt w .u8 aD nD (gtD D)) (hnD : nD = D.length) (hD2 : ∀ p, aD = some p → p.block ≠ I) (hr : RdOk t.k t.v L bad n D L' bad') :
    Calls Try.prog 22 #[.pointer (some ⟨I, 0, none⟩), itV t, .int .u64 n, .slice aD nD cD, .bool bq] w fun e w' => e = .returned (.bool true) ∧ rdLeft w I L' bad' w' := by
  have hIl := h.lt
  obtain ⟨tk, tv, tl, tf, ta, tn, tc, tF⟩ := t
  unfold itV
  simp only at *
  obtain ⟨wx, hwx⟩ : ∃ wx, w.alloc (.cells #[.int .u8 tk, .int .i64 tv, .int .i64 tl, .bool tf, .slice ta tn tc] 33) = wx := ⟨_, rfl⟩
  have hxb : Below w.heap.size w wx := by rw [← hwx]; exact (Below.refl _ _).alloc (Nat.le_refl _) _
  have hxg : Hid (w.grownBy wx (some I)) := Lib.hid (grown_of_below hxb)
  have KI := h.keep hxb
  have KD := hD.below hxb
  have hokb := h.okB
  have hDD : Hid (∀ w', wx.grownBy w' (some I) → IntsAt w' .u8 aD nD (gtD D)) := Lib.hid (fun w' hg => ⟨KD.1, fun hp => by
    obtain ⟨b, o, e, hb, hc⟩ := KD.2 hp
    refine ⟨b, o, e, Nat.lt_of_lt_of_le hb hg.size, fun j hj => (World.cell?_of_block (a := ⟨b, o + j, none⟩) (hg.block b hb (fun e2 => ?_))).trans (hc j hj)⟩
    injection e2 with e2
    exact hD2 _ e (by simpa using e2)⟩)
  clear h hD hD2 KD
  replace hnD := Lib.hid hnD
  replace hwx := Lib.hid hwx
  by_cases e0 : tk = 0
  · subst e0
    have hx := rdN_lt (bad := bad) (k := 1) hokb
    have C := u8_r KI
    rw [hr.r0 rfl] at C hx
    rw [p1] at hx
    have hw : wrap64 n = n := by unfold wrap64; omega
    replace C := Lib.hid C
    clear hx hr hn KI hxb
    go_enter Try.func22, Try.ntmps22
    go_wp2_with fail
    rw [hwx.out]
    refine C.out.mono ?_
    rintro e w1 ⟨rfl, h1, h2⟩
    have h1 := Lib.hid h1
    have h2 := Lib.hid (grown_trans hxg.out h2)
    go_wp2_with fail
    go_ret
    exact ⟨by simp [hw], h1.out, h2.out⟩
  by_cases e1 : tk = 1
  · subst e1
    have hx := rdN_lt (bad := bad) (k := 2) hokb
    have C := u16_r KI
    rw [hr.r1 rfl] at C hx
    rw [p2] at hx
    have hw : wrap64 n = n := by unfold wrap64; omega
    replace C := Lib.hid C
    clear hx hr hn KI hxb
    go_enter Try.func22, Try.ntmps22
    go_wp2_with fail
    rw [hwx.out]
    refine C.out.mono ?_
    rintro e w1 ⟨rfl, h1, h2⟩
    have h1 := Lib.hid h1
    have h2 := Lib.hid (grown_trans hxg.out h2)
    go_wp2_with fail
    go_ret
    exact ⟨by simp [hw], h1.out, h2.out⟩
  by_cases e2 : tk = 2
  · subst e2
    have hx := rdN_lt (bad := bad) (k := 4) hokb
    have C := u32_r KI
    rw [hr.r2 rfl] at C hx
    rw [p4] at hx
    have hw : wrap64 n = n := by unfold wrap64; omega
    replace C := Lib.hid C
    clear hx hr hn KI hxb
    go_enter Try.func22, Try.ntmps22
    go_wp2_with fail
    rw [hwx.out]
    refine C.out.mono ?_
    rintro e w1 ⟨rfl, h1, h2⟩
    have h1 := Lib.hid h1
    have h2 := Lib.hid (grown_trans hxg.out h2)
    go_wp2_with fail
    go_ret
    exact ⟨by simp [hw], h1.out, h2.out⟩
  by_cases e3 : tk = 3
  · subst e3
    have C := i64_r KI
    rw [hr.r3 rfl] at C
    replace C := Lib.hid C
    clear hr hn KI hxb
    go_enter Try.func22, Try.ntmps22
    go_wp2_with fail
    rw [hwx.out]
    refine C.out.mono ?_
    rintro e w1 ⟨rfl, h1, h2⟩
    have h1 := Lib.hid h1
    have h2 := Lib.hid (grown_trans hxg.out h2)
    go_wp2_with fail
    go_ret
    exact ⟨by simp, h1.out, h2.out⟩
  by_cases e4 : tk = 4
  · subst e4
    have C := flag_r KI
    rw [hr.r4 rfl] at C
    replace C := Lib.hid C
    clear hr hn KI hxb
    go_enter Try.func22, Try.ntmps22
    go_wp2_with fail
    rw [hwx.out]
    refine C.out.mono ?_
    rintro e w1 ⟨rfl, h1, h2⟩
    have h1 := Lib.hid h1
    have h2 := Lib.hid (grown_trans hxg.out h2)
    go_wp2_with fail
    go_ret
    exact ⟨by simp; rfl, h1.out, h2.out⟩
  by_cases e5 : tk = 5
  · subst e5
    have C : Hid (Calls Try.prog 34 #[.pointer (some ⟨I, 0, none⟩)] wx fun e w' => got2 wx I L' bad' D e w') := Lib.hid (by
      refine (bytes_r KI hL).mono ?_
      rw [hr.r5 rfl]
      rintro e w' ⟨h1, h2⟩
      exact got2_of h1 h2)
    clear hr hn KI hxb
    go_enter Try.func22, Try.ntmps22
    go_wp2_with fail
    rw [hwx.out]
    refine C.out.mono ?_
    rintro e w1 ⟨a5, c5, rfl, h0, h1, h2⟩
    have H29 := Lib.hid (bytes_sameL (c := c5) (d := cD) h0 (hDD.out _ h2) rfl hnD.out)
    have h1 := Lib.hid h1
    have h2 := Lib.hid (grown_trans hxg.out h2)
    clear h0
    go_wp2_with fail
    refine H29.out.mono ?_
    rintro e w2 ⟨rfl, q, rfl⟩
    go_wp2_with fail
    go_ret
    exact ⟨rfl, h1.out.keep (below_dn _ _ _), grown_trans h2.out (grown_of_below (below_dn _ _ _))⟩
  · have C : Hid (Calls Try.prog 35 #[.pointer (some ⟨I, 0, none⟩), .int .i64 tv] wx fun e w' => got2 wx I L' bad' D e w') := Lib.hid (by
      refine (plain_r KI tv hL).mono ?_
      rw [hr.r6 (by simp only [e0, e1, e2, e3, e4, e5, or_self, not_false_eq_true])]
      rintro e w' ⟨h1, h2⟩
      exact got2_of h1 h2)
    clear hr hn KI hxb
    go_enter Try.func22, Try.ntmps22
    go_wp2_with fail
    rw [hwx.out]
    refine C.out.mono ?_
    rintro e w1 ⟨a5, c5, rfl, h0, h1, h2⟩
    have H29 := Lib.hid (bytes_sameL (c := c5) (d := cD) h0 (hDD.out _ h2) rfl hnD.out)
    have h1 := Lib.hid h1
    have h2 := Lib.hid (grown_trans hxg.out h2)
    clear h0
    go_wp2_with fail
    refine H29.out.mono ?_
    rintro e w2 ⟨rfl, q, rfl⟩
    go_wp2_with fail
    go_ret
    exact ⟨rfl, h1.out.keep (below_dn _ _ _), grown_trans h2.out (grown_of_below (below_dn _ _ _))⟩

end Go.Proofs.Ytnkgbigjpihfeaa.Kd
