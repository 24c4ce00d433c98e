/- However often a key is asked, what was executed is the first sum, or nothing: BankOnce's walk. -/
import Derived.Test.YtmdkclgmibjlfaaBb
import Derived.LoopTactic
import Derived.LoopN
import Derived.Deep.RegionHeld3
set_option linter.unusedVariables false
set_option linter.unusedSimpArgs false
namespace Go.Proofs.Ytmdkclgmibjlfaa.Ba
open Go.RowKit Go.Maps Go.Proofs.Ytmdkclgmibjlfaa.Mx Go.Proofs.Ytmdkclgmibjlfaa.Lib

/-- What the bank has, k times asked. -/
def onceAll (lim : Int) (F : Nat → Int) (k : Nat) : Int := if k = 0 then 0 else if mayB lim 0 (F 0) then F 0 else 0
def onceEs (lim key rma : Int) (F : Nat → Int) (k : Nat) : Deeds := if k = 0 then [] else [(key, rma, F 0, mayB lim 0 (F 0))]

theorem ask_once {w : World} {B M : Nat} {lim key rma : Int} {F : Nat → Int} {k : Nat} (h : BankAt w B M lim (onceAll lim F k) (onceEs lim key rma F k)) (hwk : (Lit.int .i64 key).wf = true) :
    Calls Try.prog 34 #[.pointer (some ⟨B, 0, none⟩), .int .i64 key, .int .i64 rma, .int .i64 (F k)] w fun e w' => (∃ b, e = .returned (.bool b)) ∧ Chg B M w w' ∧ BankAt w' B M lim (onceAll lim F (k + 1)) (onceEs lim key rma F (k + 1)) := by
  cases k with
  | zero =>
    simp only [onceAll, onceEs, if_true] at h
    refine (ask_new h (k := key) rfl hwk rma (F 0) (by decide) (by decide) (Y := mayB lim 0 (F 0)) (Lib.hid rfl) (all' := onceAll lim F 1) (Lib.hid (by simp [onceAll]))).mono ?_
    rintro e w' ⟨rfl, hc, hb⟩
    exact ⟨⟨_, rfl⟩, hc, by simpa [onceEs] using hb⟩
  | succ k =>
    have e1 : onceAll lim F (k + 1) = onceAll lim F (k + 1 + 1) := by simp [onceAll]
    have e2 : onceEs lim key rma F (k + 1) = onceEs lim key rma F (k + 1 + 1) := by simp [onceEs]
    refine (ask_old h (k := key) (rma, F 0, mayB lim 0 (F 0)) (by simp [onceEs]) hwk rma (F (k + 1))).mono ?_
    rintro e w' ⟨rfl, hb⟩
    exact ⟨⟨_, rfl⟩, Chg.of_below hb, by rw [← e1, ← e2]; exact h.keep hb⟩

set_option maxRecDepth 100000 in
set_option maxHeartbeats 6400000 in
theorem bankOnce_walk (lim key rma : Int) (a : Option Addr) (n c : Nat) (F : Nat → Int) (W : World) (h : IntsAt W .i64 a n F) (hwk : (Lit.int .i64 key).wf = true) :
    Calls Try.prog 10 #[.int .i64 lim, .int .i64 key, .int .i64 rma, .slice a n c] W fun e w' => e = .returned (.bool true) ∧ Below W.heap.size W w' := by
  have hbig := h.1
  by_cases hn : 100 < n
  · have hn' : (100 : Int) < n := by omega
    have h := Lib.hid h
    go_enter Try.func10, Try.ntmps10
    go_wp2_with fail
    refine (awake20 W).mono ?_
    rintro e w1 ⟨rfl, b1⟩
    go_wp2_with fail
    refine (awake20 _).mono ?_
    rintro e w2 ⟨rfl, b2⟩
    go_wp2_with fail
    go_ret
    exact ⟨rfl, b1.trans (b2.mono b1.size)⟩
  · have hn' : ¬ (100 : Int) < n := by omega
    have H := Lib.hid h
    clear h
    go_enter Try.func10, Try.ntmps10
    go_wp2_with fail
    refine (awake20 W).mono ?_
    rintro e w1 ⟨rfl, b1⟩
    go_wp2_with fail
    refine (new_any lim _).mono ?_
    rintro e w2 ⟨rfl, h2, b2, s2⟩
    have h2 := Lib.hid h2
    have bb2 := Lib.hid (b1.trans (b2.mono b1.size))
    clear b2
    have hge := b1.size
    clear b1
    generalize hB : w1.heap.size + 1 = B at *
    generalize hM : w1.heap.size = M at *
    go_wp2_with fail
    go_loopw [23] (fun i wr => ∃ k : Nat, k ≤ n ∧ i = .int .i64 k ∧ BankAt wr B M lim (onceAll lim F k) (onceEs lim key rma F k) ∧ Below W.heap.size W wr) (fun i _ => n - (intOf i).toNat)
    case atStart => exact ⟨0, Nat.zero_le _, rfl, h2.out, bb2.out⟩
    case round =>
      obtain ⟨k, hk, rfl, hb, hbl⟩ := hrel
      by_cases hlt : k < n
      · obtain ⟨b, o, rfl, hbb, hc⟩ := H.out.2 (by omega)
        have hck : wr.cell? ⟨b, o + k, none⟩ = some (.int .i64 (F k)) := (hbl.cell (p := ⟨b, o + k, none⟩) hbb).trans (hc k hlt)
        have hlt' : (k : Int) < n := by omega
        have hb := Lib.hid hb
        have hc := Lib.hid hc
        have hbl := Lib.hid hbl
        go_wp2_with fail
        refine (ask_once hb.out hwk).mono ?_
        rintro e w3 ⟨⟨bb, rfl⟩, hch, hb3⟩
        have hs := hbl.out.size
        have hbl3 : Below W.heap.size W w3 := hbl.out.trans (hch.below (by omega) (by omega) (by omega))
        go_wp2_with fail
        go_roundw
        case rel => exact ⟨k + 1, by omega, by simp, hb3, hbl3⟩
        case measure => simp [intOf]; omega
      · obtain rfl : k = n := by omega
        have hlt' : ¬ (k : Int) < k := by omega
        have hsz : wr.heap.size ≤ wr.heap.size := Nat.le_refl _
        have C35 : Hid (∀ w', Below wr.heap.size wr w' → Calls Try.prog 35 #[.pointer (some ⟨B, 0, none⟩)] w' fun e w'' => e = .returned (.int .i64 (onceAll lim F k)) ∧ w'' = w') := Lib.hid fun w' hq => all_any (hb.keep hq)
        by_cases hz : onceAll lim F k = 0
        · rw [hz] at C35
          have hb := Lib.hid hb
          have hbl := Lib.hid hbl
          go_wp2_with fail
          go_quiet (first | (go_at_call 35; refine Calls.quiet_of_same (C35.out _ (below_dn _ _ _))))
          go_wp2_with fail
          go_ret
          exact ⟨rfl, hbl.out.trans (below_dn _ _ _)⟩
        · have hk0 : 0 < k := by
            rcases Nat.eq_zero_or_pos k with e | e
            · subst e; simp [onceAll] at hz
            · exact e
          have hY : mayB lim 0 (F 0) = true := by
            cases hq : mayB lim 0 (F 0)
            · exfalso; apply hz; simp [onceAll, hq]
            · rfl
          have hall : onceAll lim F k = F 0 := by simp [onceAll, hY]; omega
          have hes : onceEs lim key rma F k = [(key, rma, F 0, true)] := by simp [onceEs, hY]; omega
          rw [hall] at C35 hz
          rw [hes] at hb
          have hr : 0 ≤ F 0 ∧ F 0 ≤ 1125899906842624 := by
            simp only [mayB, Bool.and_eq_true, decide_eq_true_eq] at hY
            omega
          have C36 : Hid (∀ w', Below wr.heap.size wr w' → Calls Try.prog 36 #[.pointer (some ⟨B, 0, none⟩)] w' fun e w'' => e = .returned (.int .i64 1) ∧ w'' = w') := Lib.hid fun w' hq => keys_any (hb.keep hq)
          have C37 : Hid (∀ w', Below wr.heap.size wr w' → Calls Try.prog 37 #[.pointer (some ⟨B, 0, none⟩), .int .i64 rma] w' fun e w'' => e = .returned (.int .i64 (F 0)) ∧ Below wr.heap.size w' w'') := Lib.hid fun w' hq => by
            refine (exec_any (hb.keep hq) rma (by simp [fB]; omega) (by simp [total, fB]; omega)).mono ?_
            rintro e w'' ⟨rfl, hb2⟩
            exact ⟨by simp [total, fB], hb2.mono hq.size⟩
          obtain ⟨b, o, rfl, hbb, hc⟩ := H.out.2 (by omega)
          have hc0 : wr.cell? ⟨b, o, none⟩ = some (.int .i64 (F 0)) := (hbl.cell (p := ⟨b, o, none⟩) hbb).trans (hc 0 (by omega))
          have hbw := hbl.size
          have KC : Hid (∀ w', Below wr.heap.size wr w' → w'.cell? ⟨b, o, none⟩ = some (.int .i64 (F 0))) := Lib.hid fun w' hq => (hq.cell (p := ⟨b, o, none⟩) (by show b < _; omega)).trans hc0
          have hc := Lib.hid hc
          have hb := Lib.hid hb
          have hbl := Lib.hid hbl
          have hk1 : (0 : Int) < k := by omega
          have hk2 : decide (0 < k) = true := by simpa using hk0
          have hz1 : (F 0 == 0) = false := by simpa using hz
          clear hr hall hes hY
          generalize F 0 = F0 at *
          go_wp2_with fail
          go_region_held3 (fun w' => w'.cell? ⟨b, o, none⟩ = some (.int .i64 F0))
            (first
              | exact KC.out _ (Below.refl _ _).drew
              | exact KC.out _ hb5
              | go_keep)
            (first
              | (go_at_call 35; refine (C35.out _ (Below.drew (Below.refl _ _))).mono ?_; rintro e w3 ⟨rfl, rfl⟩)
              | (go_at_call 37; refine (C37.out _ (Below.drew (Below.refl _ _))).mono ?_; rintro e w4 ⟨rfl, hb4⟩; have hb5 : Below wr.heap.size wr w4 := Below.trans (Below.drew (Below.refl _ _)) hb4)
              | (go_at_call 36; refine (C36.out _ hb5).mono ?_; rintro e w3 ⟨rfl, rfl⟩))
          go_wp2_with fail
          go_ret
          exact ⟨rfl, hbl.out.trans (hb5.mono hbw)⟩

end Go.Proofs.Ytmdkclgmibjlfaa.Ba
