/- What is done to a clone changes nothing of the stock: StockClones walked. -/
import Derived.Test.YtmdkclgmibjlfaaSg
import Derived.Test.YtmdkclgmibjlfaaSx
set_option linter.unusedVariables false
set_option linter.unusedSimpArgs false
namespace Go.Proofs.Ytmdkclgmibjlfaa.Ba
open Go.RowKit Go.Maps Go.Proofs.Ytmdkclgmibjlfaa.Mx Go.Proofs.Ytmdkclgmibjlfaa.Lib

/-- There is no such stock. -/
theorem snew_bad {a1 a2 : Option Addr} {n c m d : Nat} {S P : Nat → Int} (w : World) (h1 : IntsAt w .i64 a1 n S) (h2 : IntsAt w .i64 a2 m P) (h : ¬ (n = m ∧ n ≤ 200 ∧ okP n P = true)) :
    Calls Try.prog 17 #[.slice a1 n c, .slice a2 m d] w fun e w' => e = .returned (.tuple #[.pointer none, .int .i64 1]) ∧ Below w.heap.size w w' := by
  by_cases hl : n ≠ m ∨ 200 < n
  · refine (snew_lens w hl h1.1 h2.1).mono ?_
    rintro e w' ⟨rfl, rfl⟩
    exact ⟨rfl, Below.refl _ _⟩
  · obtain rfl : n = m := by omega
    have hY : okP n P = false := by
      cases hq : okP n P
      · rfl
      · exact absurd ⟨rfl, by omega, hq⟩ h
    refine (snew_any w h1 h2 (by omega) (Lib.hid hY)).mono ?_
    rintro e w' ⟨_, h1, h2⟩
    exact ⟨h1 rfl, h2⟩

set_option maxRecDepth 100000 in
set_option maxHeartbeats 6400000 in
theorem stockClones_walk (a : Option Addr) (n c : Nat) (S : Nat → Int) (ap : Option Addr) (m cp : Nat) (P : Nat → Int) (s : Option Addr) (l d : Nat) (K A C : Nat → Int) (W : World) (hS : IntsAt W .i64 a n S) (hP : IntsAt W .i64 ap m P) (hs : ActsAt W s l K A C) :
    Calls Try.prog 6 #[.slice a n c, .slice ap m cp, .slice s l d] W fun e w' => e = .returned (.bool true) ∧ Below W.heap.size W w' := by
  have hbign := hS.1
  have hbigm := hP.1
  have hbigl := hs.1
  have H11 : Hid (∀ w', Calls Try.prog 14 #[] w' fun e w'' => e = .returned (.bool true) ∧ Below w'.heap.size w' w'') := Lib.hid awake11
  by_cases hn : 200 < n
  · have hn' : (200 : Int) < n := by omega
    clear hS hs hP
    go_enter Try.func6, Try.ntmps6
    go_wp2_with fail
    refine (H11.out W).mono ?_
    rintro e w1 ⟨rfl, b1⟩
    go_wp2_with fail
    refine (H11.out _).mono ?_
    rintro e w2 ⟨rfl, b2⟩
    go_wp2_with fail
    go_ret
    exact ⟨rfl, b1.trans (b2.mono b1.size)⟩
  have hn' : ¬ (200 : Int) < n := by omega
  by_cases hl : 100 < l
  · have hl' : (100 : Int) < l := by omega
    clear hS hs hP
    go_enter Try.func6, Try.ntmps6
    go_wp2_with fail
    refine (H11.out W).mono ?_
    rintro e w1 ⟨rfl, b1⟩
    go_wp2_with fail
    refine (H11.out _).mono ?_
    rintro e w2 ⟨rfl, b2⟩
    go_wp2_with fail
    go_ret
    exact ⟨rfl, b1.trans (b2.mono b1.size)⟩
  have hl' : ¬ (100 : Int) < l := by omega
  have HF := Lib.hid hS
  have HP := Lib.hid hP
  have HS := Lib.hid hs
  clear hS hs hP
  by_cases hok : n = m ∧ n ≤ 200 ∧ okP n P = true
  · obtain ⟨rfl, hn2, hok⟩ := hok
    go_enter Try.func6, Try.ntmps6
    go_wp2_with fail
    refine (H11.out W).mono ?_
    rintro e w1 ⟨rfl, b1⟩
    have i1 := Lib.hid (HF.out.below b1)
    have i2 := Lib.hid (HP.out.below b1)
    replace b1 := Lib.hid b1
    go_wp2_with fail
    refine (snew_any w1 i1.out i2.out hn2 (Lib.hid hok)).mono ?_
    rintro e w2 ⟨h1, _, b2⟩
    obtain ⟨rfl, v, hst⟩ := h1 rfl
    replace hst := Lib.hid hst
    have hbB := b1.out.size
    have i3 := Lib.hid (i1.out.below b2)
    have i4 := Lib.hid (i2.out.below b2)
    replace b2 := Lib.hid (b1.out.trans (b2.mono hbB))
    clear h1 b1 i1 i2
    generalize w1.heap.size = B at *
    go_wp2_with fail
    refine (model_any w2 i3.out i4.out hn2 (Lib.hid hok)).mono ?_
    rintro e w3 ⟨h1, _, b3⟩
    obtain ⟨mv, rfl, hmr⟩ := h1 rfl
    have hw2 := b2.out.size
    replace hst := Lib.hid (hst.out.keep b3)
    replace hmr := Lib.hid hmr
    replace b3 := Lib.hid (b2.out.trans (b3.mono hw2))
    clear h1 i3 i4 b2
    generalize w2.heap.size = base at *
    go_wp2_with fail
    have hEl := usOf_len P S n
    have hEp : Hid (∀ j, j < (usOf P S n).length → 0 ≤ ((usOf P S n).getD j d4).1 ∧ ((usOf P S n).getD j d4).1 < 9) := Lib.hid fun j hj => by
      have hj' : j < n := by omega
      have := (okP_iff n P).1 hok j hj'
      have e : (usOf P S n).getD j d4 = (P j, S j, false, false) := by simp [usOf, List.getD, hj']
      rw [e]
      exact this
    generalize usOf P S n = E at *
    refine (sclone_any hst.out (by omega)).mono ?_
    rintro e w4 ⟨⟨B2, v2, rfl, hg⟩, b4⟩
    replace hg := Lib.hid (show ∃ E', StkG w4 w3.heap.size B2 v2 E' ∧ E'.length = E.length from ⟨E, hg, rfl⟩)
    replace b4 := Lib.hid b4
    have hw3 := b3.out.size
    go_wp2_with fail
    go_loopw [51] (fun i wr => ∃ k : Nat, k ≤ l ∧ i = .int .i64 k ∧ Hid (∃ E', StkG wr w3.heap.size B2 v2 E' ∧ E'.length = E.length) ∧ Hid (Below w3.heap.size w3 wr)) (fun i _ => l - (intOf i).toNat)
    case atStart => exact ⟨0, Nat.zero_le _, rfl, hg, b4⟩
    case round =>
      obtain ⟨k, hk, rfl, hg1, hbl⟩ := hrel
      clear hg b4
      by_cases hlt : k < l
      · obtain ⟨E1, hE1, hEl1⟩ := hg1.out
        obtain ⟨b, o, rfl, hbb, hc⟩ := HS.out.2 (by omega)
        have hbW := b3.out.trans (hbl.out.mono hw3)
        obtain ⟨ck, ca, cc⟩ := hc k hlt
        replace ck := (hbW.cell (p := ⟨b, o + k * 3, none⟩) hbb).trans ck
        replace ca := (hbW.cell (p := ⟨b, o + k * 3 + 1, none⟩) hbb).trans ca
        replace cc := (hbW.cell (p := ⟨b, o + k * 3 + 2, none⟩) hbb).trans cc
        have hlt' : (k : Int) < l := by omega
        have C18 := Lib.hid (gpick_any hE1 (A k))
        have C19 : Hid (∀ w', Below wr.heap.size wr w' → Calls Try.prog 19 #[.pointer (some ⟨B2, 0, none⟩), .int .i64 (A k), .int .i64 (C k)] w' fun e w'' => (∃ a, e = .returned (.int .i64 a)) ∧ gPost w' w3.heap.size B2 v2 E1.length w'') := Lib.hid fun w' hq => gmove_any (hE1.keep hq) (A k) (C k)
        have KS : Hid (∀ w', Below w3.heap.size wr w' → w'.cell? ⟨b, o + k * 3 + 1, none⟩ = some (.int .i64 (A k)) ∧ w'.cell? ⟨b, o + k * 3 + 2, none⟩ = some (.int .i64 (C k))) := Lib.hid fun w' hq => ⟨(hq.cell (p := ⟨b, o + k * 3 + 1, none⟩) (by show b < _; omega)).trans ca, (hq.cell (p := ⟨b, o + k * 3 + 2, none⟩) (by show b < _; omega)).trans cc⟩
        clear hc hE1 hg1 hbW
        have hk3 : K k > 3 ∨ ¬ K k > 3 := by omega
        rcases hk3 with hk3 | hk3
        case' inl =>
          go_upto_region 14 with (first | (go_at_call 18; refine C18.out.mono ?_; rintro e w4 ⟨⟨ra, rb, rfl⟩, h4, hb4⟩; have hb5 : Below w3.heap.size wr w4 := hb4))
        case' inr =>
          go_wp2_with fail
          go_region_held3 (fun w' => w'.cell? ⟨b, o + k * 3 + 1, none⟩ = some (.int .i64 (A k)) ∧ w'.cell? ⟨b, o + k * 3 + 2, none⟩ = some (.int .i64 (C k)))
            (first
              | exact KS.out _ (Below.refl _ _).drew
              | exact KS.out _ hb5
              | go_keep)
            ((go_at_call 19; refine (C19.out _ (Below.drew (Below.refl _ _))).mono ?_; rintro e w4 ⟨⟨ra, rfl⟩, h4, hb4⟩; have hb5 : Below w3.heap.size wr w4 := (Below.refl _ _).drew.trans hb4))
        all_goals
          have hg4 := Lib.hid (show ∃ E', StkG w4 w3.heap.size B2 v2 E' ∧ E'.length = E.length from h4.imp fun E' h => ⟨h.1, h.2.trans hEl1⟩)
          have hb6 := Lib.hid (hbl.out.trans hb5)
          clear h4 hb4
          go_wp2_with fail
          go_roundw
          case rel => exact ⟨k + 1, by omega, by go_num, hg4, hb6⟩
          case measure => simp [intOf]; omega
      · obtain rfl : k = l := by omega
        have hlt' : ¬ (k : Int) < k := by omega
        have hst5 := Lib.hid (hst.out.keep hbl.out)
        have hm5 := Lib.hid (owns_keep hmr.out hbl.out)
        have hfin := Lib.hid (b3.out.trans (hbl.out.mono hw3))
        go_wp2_with fail
        refine (same_any hst5.out hm5.out hEp.out (by omega)).mono ?_
        rintro e w6 ⟨rfl, b6⟩
        go_wp2_with fail
        go_ret
        exact ⟨rfl, hfin.out.trans (b6.mono hfin.out.size)⟩
  · go_enter Try.func6, Try.ntmps6
    go_wp2_with fail
    refine (H11.out W).mono ?_
    rintro e w1 ⟨rfl, b1⟩
    have H17 := Lib.hid (snew_bad (c := c) (d := cp) w1 (HF.out.below b1) (HP.out.below b1) hok)
    replace b1 := Lib.hid b1
    clear hok
    go_wp2_with fail
    refine H17.out.mono ?_
    rintro e w2 ⟨rfl, b2⟩
    go_wp2_with fail
    refine (sclone_nil _).mono ?_
    rintro e w3 ⟨rfl, rfl⟩
    go_wp2_with fail
    go_ret
    exact ⟨rfl, b1.out.trans (b2.mono b1.out.size)⟩

end Go.Proofs.Ytmdkclgmibjlfaa.Ba
