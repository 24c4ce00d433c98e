/- Whatever a carrier is asked: CarrierPlays walked. -/
import Derived.Test.YtmdkclgmibjlfaaCb
import Derived.Test.YtmdkclgmibjlfaaSc
import Derived.Deep.RegionHeld3
set_option linter.unusedVariables false
set_option linter.unusedSimpArgs false
namespace Go.Proofs.Ytmdkclgmibjlfaa.Ba
open Go.RowKit Go.Maps Go.Proofs.Ytmdkclgmibjlfaa.Mx Go.Proofs.Ytmdkclgmibjlfaa.Lib

/-- What the document answers to what is asked first. -/
def cval (m : Nat) (F R : Nat → Int) (j : Nat) : Bool := !memb m F (R j)

/-- One asking, i asked already. -/
theorem cask_step {w : World} {B M : Nat} {a : Option Addr} {m c i : Nat} {F K R : Nat → Int} (h : CarAt w B M a m c F (esOf (cval m F R) K i)) (hwk : (Lit.int .i64 (K i)).wf = true) (hi : i ≤ 1000) {rma : Int} {first : Bool} (hl : Look K R i 0 rma first) :
    Calls Try.prog 30 #[.pointer (some ⟨B, 0, none⟩), .int .i64 (K i), .int .i64 (R i)] w fun e w' => e = .returned (.bool (!memb m F rma)) ∧ Chg B M w w' ∧ CarAt w' B M a m c F (esOf (cval m F R) K (i + 1)) := by
  have hk := hl.key (val := cval m F R)
  have hlen := len_esOf (cval m F R) K i
  cases first
  · obtain ⟨j, h1, h2, h3, h4, h5⟩ := hl.no rfl
    have hm := mem_esOf (cval m F R) K (j := j) (fun j' hj' => by rw [h3]; exact h5 j' (by omega) hj') i h2
    rw [h3] at hm
    rw [esOf_old _ K (by simpa using hk)]
    refine (cask_old h hm hwk (R i)).mono ?_
    rintro e w' ⟨rfl, rfl⟩
    exact ⟨by rw [← h4]; rfl, Chg.refl _ _ _, h⟩
  · obtain ⟨rfl, _⟩ := hl.yes rfl
    rw [esOf_new _ K (by simpa using hk)]
    refine (cask_new h (by simpa using hk) hwk (R i) (by have : (1000 : Nat) < maxLen := maxLen_big2; omega) (Y := cval m F R i) (Lib.hid (by simp [cval]))).mono ?_
    rintro e w' ⟨rfl, hc, hb⟩
    exact ⟨rfl, hc, hb⟩

/-- The key's answer, asked. -/
theorem casked_step {w : World} {B M : Nat} {a : Option Addr} {m c i : Nat} {F K R : Nat → Int} (h : CarAt w B M a m c F (esOf (cval m F R) K (i + 1))) (hwk : (Lit.int .i64 (K i)).wf = true) {rma : Int} {first : Bool} (hl : Look K R i 0 rma first) :
    Calls Try.prog 29 #[.pointer (some ⟨B, 0, none⟩), .int .i64 (K i)] w fun e w' => e = .returned (.tuple #[.bool (!memb m F rma), .bool true]) ∧ w' = w := by
  have hmem : (K i, !memb m F rma) ∈ esOf (cval m F R) K (i + 1) := by
    cases first
    · obtain ⟨j, h1, h2, h3, h4, h5⟩ := hl.no rfl
      have hm := mem_esOf (cval m F R) K (j := j) (fun j' hj' => by rw [h3]; exact h5 j' (by omega) hj') (i + 1) (by omega)
      rw [h3] at hm
      rw [← h4]
      exact hm
    · obtain ⟨rfl, h5⟩ := hl.yes rfl
      exact mem_esOf (cval m F R) K (j := i) (fun j' hj' => h5 j' (by omega) hj') (i + 1) (by omega)
  have hin : keyIn (esOf (cval m F R) K (i + 1)) (K i) = true := List.any_eq_true.2 ⟨_, hmem, by simp⟩
  refine (casked_any h hwk (Y := !memb m F rma) (Lib.hid (atKey_ent encC _ _ h.once hmem))).mono ?_
  rintro e w' ⟨rfl, rfl⟩
  exact ⟨by rw [hin], rfl⟩

theorem casked_before {w : World} {B M : Nat} {a : Option Addr} {m c i : Nat} {F K R : Nat → Int} (h : CarAt w B M a m c F (esOf (cval m F R) K i)) (hwk : (Lit.int .i64 (K i)).wf = true) {rma : Int} {first : Bool} (hl : Look K R i 0 rma first) :
    ∃ y, Calls Try.prog 29 #[.pointer (some ⟨B, 0, none⟩), .int .i64 (K i)] w fun e w' => e = .returned (.tuple #[.bool y, .bool (!first)]) ∧ w' = w := by
  have hk := hl.key (val := cval m F R)
  cases first
  · obtain ⟨j, h1, h2, h3, h4, h5⟩ := hl.no rfl
    have hm := mem_esOf (cval m F R) K (j := j) (fun j' hj' => by rw [h3]; exact h5 j' (by omega) hj') i h2
    rw [h3] at hm
    refine ⟨cval m F R j, (casked_any h hwk (Lib.hid (atKey_ent encC _ _ h.once hm))).mono ?_⟩
    rintro e w' ⟨rfl, rfl⟩
    exact ⟨by rw [hk], rfl⟩
  · refine ⟨false, (casked_any h hwk (Lib.hid (atKey_of_not_has (by rw [has_ent]; simpa using hk) _))).mono ?_⟩
    rintro e w' ⟨rfl, rfl⟩
    exact ⟨by rw [hk], rfl⟩

theorem total_step {m i : Nat} {F K R : Nat → Int} {rma : Int} {first : Bool} (hl : Look K R i 0 rma first) :
    total fC (esOf (cval m F R) K (i + 1)) = total fC (esOf (cval m F R) K i) + (if first && !memb m F rma then 1 else 0) := by
  have hk := hl.key (val := cval m F R)
  cases first
  · rw [esOf_old _ K (by simpa using hk)]; simp
  · obtain ⟨rfl, _⟩ := hl.yes rfl
    rw [esOf_new _ K (by simpa using hk)]
    simp [total, fC, cval]

theorem total_bounds (es : Asked) : 0 ≤ total fC es ∧ total fC es ≤ es.length := by
  refine ⟨?_, total_le es⟩
  induction es with
  | nil => simp [total]
  | cons p es ih =>
    unfold total at ih ⊢
    simp only [List.map_cons, List.sum_cons, fC]
    split <;> omega

set_option maxRecDepth 100000 in
set_option maxHeartbeats 6400000 in
theorem carrierPlays_walk (a : Option Addr) (m c : Nat) (F : Nat → Int) (s : Option Addr) (n d : Nat) (K R : Nat → Int) (W : World) (hF : IntsAt W .i64 a m F) (ha : a = none → m = 0) (hs : PairsAt W s n K R) (hwf : ∀ j, j < n → (Lit.int .i64 (K j)).wf = true) :
    Calls Try.prog 7 #[.slice a m c, .slice s n d] W fun e w' => e = .returned (.bool true) ∧ Below W.heap.size W w' := by
  have hbigm := hF.1
  have hbign := hs.1
  by_cases hbig : 100 < m ∨ 200 < n
  · have H19 : Hid (∀ w', Calls Try.prog 27 #[] w' fun e w'' => e = .returned (.bool true) ∧ Below w'.heap.size w' w'') := Lib.hid awake19
    by_cases hm : 100 < m
    · have hm' : (100 : Int) < m := by omega
      clear hF hs
      go_enter Try.func7, Try.ntmps7
      go_wp2_with fail
      refine (H19.out W).mono ?_
      rintro e w1 ⟨rfl, b1⟩
      go_wp2_with fail
      refine (H19.out _).mono ?_
      rintro e w2 ⟨rfl, b2⟩
      go_wp2_with fail
      go_ret
      exact ⟨rfl, b1.trans (b2.mono b1.size)⟩
    · have hm' : ¬ (100 : Int) < m := by omega
      have hn' : (200 : Int) < n := by omega
      clear hF hs
      go_enter Try.func7, Try.ntmps7
      go_wp2_with fail
      refine (H19.out W).mono ?_
      rintro e w1 ⟨rfl, b1⟩
      go_wp2_with fail
      refine (H19.out _).mono ?_
      rintro e w2 ⟨rfl, b2⟩
      go_wp2_with fail
      go_ret
      exact ⟨rfl, b1.trans (b2.mono b1.size)⟩
  · have hm' : ¬ (100 : Int) < m := by omega
    have hn' : ¬ (200 : Int) < n := by omega
    have HF := Lib.hid hF
    have HS := Lib.hid hs
    have hwf := Lib.hid hwf
    have ha := Lib.hid ha
    have hmm : m ≤ 100 := by omega
    have hnn : n ≤ 200 := by omega
    clear hF hs hbig
    go_enter Try.func7, Try.ntmps7
    go_wp2_with fail
    refine (awake19 W).mono ?_
    rintro e w1 ⟨rfl, b1⟩
    have hF1 := Lib.hid (HF.out.below b1)
    go_wp2_with fail
    refine (cnew_any _ hF1.out ha.out (by omega)).mono ?_
    rintro e w2 ⟨B, M, a', c', rfl, h2, gB, gM, b2⟩
    have h2 := Lib.hid h2
    have bb2 := Lib.hid (b1.trans (b2.mono b1.size))
    have hgB : W.heap.size ≤ B := by have := b1.size; omega
    have hgM : W.heap.size ≤ M := by have := b1.size; omega
    clear b1 b2 gB gM hF1
    go_wp2_with fail
    go_loopw [6, 34] (fun lab i wr => ∃ k : Nat, k ≤ n ∧ i = .int .i64 k ∧ lab = .int .i64 (total fC (esOf (cval m F R) K k)) ∧ CarAt wr B M a' m c' F (esOf (cval m F R) K k) ∧ Below W.heap.size W wr) (fun _ i _ => n - (intOf i).toNat)
    case atStart => exact ⟨0, Nat.zero_le _, rfl, rfl, h2.out, bb2.out⟩
    case round =>
      obtain ⟨k, hk, rfl, rfl, hb, hbl⟩ := hrel
      by_cases hlt : k < n
      · obtain ⟨b, o, rfl, hbb, hc⟩ := HS.out.2 (by omega)
        have hc : ∀ j, j < n → wr.cell? ⟨b, o + j * 2, none⟩ = some (.int .i64 (K j)) ∧ wr.cell? ⟨b, o + j * 2 + 1, none⟩ = some (.int .i64 (R j)) := fun j hj => ⟨(hbl.cell (p := ⟨b, o + j * 2, none⟩) hbb).trans (hc j hj).1, (hbl.cell (p := ⟨b, o + j * 2 + 1, none⟩) hbb).trans (hc j hj).2⟩
        obtain ⟨ck, cr⟩ := hc k hlt
        have hlt' : (k : Int) < n := by omega
        have hb := Lib.hid hb
        have hc := Lib.hid hc
        have hbl := Lib.hid hbl
        go_wp2_with fail
        go_loopw [9, 10, 11] (fun r f j w2 => ∃ (lo q : Nat) (rma : Int) (first : Bool), lo ≤ k ∧ r = .int .i64 rma ∧ f = .bool first ∧ j = .int .i64 ((lo : Int) - 1) ∧ Hid (Look K R k lo rma first) ∧ w2 = wr.drewN q) (fun _ _ j _ => (intOf j + 1).toNat)
        case atStart => exact ⟨k, 0, _, _, Nat.le_refl _, rfl, rfl, by go_num, Lib.hid (look_start K R k), rfl⟩
        case round =>
          obtain ⟨lo, q, rma, first, hlo, rfl, rfl, rfl, hL, rfl⟩ := hrel
          cases lo with
          | zero =>
            rw [show (((0 : Nat) : Int) - 1) = -1 from rfl]
            have hbq := Lib.hid (hb.out.keep (below_dn _ wr q))
            have hblq := Lib.hid (hbl.out.trans (below_dn _ wr q))
            have ckq : (wr.drewN q).cell? ⟨b, o + k * 2, none⟩ = some (.int .i64 (K k)) := ck
            have crq : (wr.drewN q).cell? ⟨b, o + k * 2 + 1, none⟩ = some (.int .i64 (R k)) := cr
            have hwk := hwf.out k hlt
            clear hb hbl ck cr hc h2 bb2
            generalize wr.drewN q = wq at *
            go_wp2_with fail
            go_loopw [8, 66] (fun wnt i w3 => ∃ j : Nat, j ≤ m ∧ wnt = .bool (!memb j F rma) ∧ i = .int .i64 j ∧ w3 = wq) (fun _ i _ => m - (intOf i).toNat)
            case atStart => exact ⟨0, Nat.zero_le _, by simp [memb_zero], rfl, rfl⟩
            case round =>
              obtain ⟨j, hj, rfl, rfl, rfl⟩ := hrel
              by_cases hjm : j < m
              · obtain ⟨ba, oa, rfl, hba, hca⟩ := HF.out.2 (by omega)
                have cf : wr.cell? ⟨ba, oa + j, none⟩ = some (.int .i64 (F j)) := (hblq.out.cell (p := ⟨ba, oa + j, none⟩) hba).trans (hca j hjm)
                have hjm' : (j : Int) < m := by omega
                have hs := Lib.hid (memb_succ j F rma)
                generalize memb j F rma = X at *
                cases X
                · cases hfr : (F j == rma)
                  · have hfr' : (F j != rma) = true := by simpa using hfr
                    go_wp2_with fail
                    go_roundw
                    case rel => exact ⟨j + 1, by omega, by rw [hs.out, hfr]; rfl, by go_num, by simp⟩
                    case measure => simp [intOf]; omega
                  · have hfr' : (F j != rma) = false := by simpa using hfr
                    go_wp2_with fail
                    go_roundw
                    case rel => exact ⟨j + 1, by omega, by rw [hs.out, hfr]; rfl, by go_num, by simp⟩
                    case measure => simp [intOf]; omega
                · go_wp2_with fail
                  go_roundw
                  case rel => exact ⟨j + 1, by omega, by rw [hs.out]; rfl, by go_num, by simp⟩
                  case measure => simp [intOf]; omega
              · obtain rfl : j = m := by omega
                have hjm' : ¬ (j : Int) < j := by omega
                have hL := hL.out
                obtain ⟨y, H29⟩ := casked_before hbq.out hwk hL
                have H29 := Lib.hid H29
                have C30 : Hid (∀ w', Below wr.heap.size wr w' → Calls Try.prog 30 #[.pointer (some ⟨B, 0, none⟩), .int .i64 (K k), .int .i64 (R k)] w' fun e w'' => e = .returned (.bool (!memb j F rma)) ∧ Chg B M w' w'' ∧ CarAt w'' B M a' j c' F (esOf (cval j F R) K (k + 1))) := Lib.hid fun w' hq => cask_step (hbq.out.keep hq) hwk (by omega) hL
                have C29 : Hid (∀ w', CarAt w' B M a' j c' F (esOf (cval j F R) K (k + 1)) → Calls Try.prog 29 #[.pointer (some ⟨B, 0, none⟩), .int .i64 (K k)] w' fun e w'' => e = .returned (.tuple #[.bool (!memb j F rma), .bool true]) ∧ w'' = w') := Lib.hid fun w' h => casked_step h hwk hL
                have hts := total_step (m := j) (F := F) hL
                have hl1 := len_esOf (cval j F R) K (k + 1)
                have hb1 := total_bounds (esOf (cval j F R) K (k + 1))
                have hb0 := total_bounds (esOf (cval j F R) K k)
                have C31 : Hid (∀ w', CarAt w' B M a' j c' F (esOf (cval j F R) K (k + 1)) → Calls Try.prog 31 #[.pointer (some ⟨B, 0, none⟩)] w' fun e w'' => e = .returned (.int .i64 (total fC (esOf (cval j F R) K (k + 1)))) ∧ Below w'.heap.size w' w'') := Lib.hid fun w' h => clabels_any h (by omega)
                have KS : Hid (∀ w', Below W.heap.size W w' → w'.cell? ⟨b, o + k * 2, none⟩ = some (.int .i64 (K k)) ∧ w'.cell? ⟨b, o + k * 2 + 1, none⟩ = some (.int .i64 (R k))) := Lib.hid fun w' hq => ⟨(hq.cell (p := ⟨b, o + k * 2, none⟩) hbb).trans ((hblq.out.cell (p := ⟨b, o + k * 2, none⟩) hbb).symm.trans ckq), (hq.cell (p := ⟨b, o + k * 2 + 1, none⟩) hbb).trans ((hblq.out.cell (p := ⟨b, o + k * 2 + 1, none⟩) hbb).symm.trans crq)⟩
                have hszW := hblq.out.size
                clear hwk hL
                generalize hT1 : total fC (esOf (cval j F R) K (k + 1)) = T1 at *
                generalize hT0 : total fC (esOf (cval j F R) K k) = T0 at *
                have hT1 := Lib.hid hT1
                have hT0 := Lib.hid hT0
                generalize memb j F rma = X at *
                have hw1 : wrap64 (T0 + 1) = T0 + 1 := by unfold wrap64; omega
                cases first <;> cases X <;> simp at hts <;> subst hts
                all_goals
                  go_wp2_with fail
                  refine H29.out.mono ?_
                  rintro e w3 ⟨rfl, rfl⟩
                  go_wp2_with fail
                  go_region_held3 (fun w' => w'.cell? ⟨b, o + k * 2, none⟩ = some (.int .i64 (K k)) ∧ w'.cell? ⟨b, o + k * 2 + 1, none⟩ = some (.int .i64 (R k)))
                    (first
                      | exact KS.out _ hblq.out.drew
                      | exact KS.out _ hb5
                      | go_keep)
                    ((go_at_call 30; refine (C30.out _ (Below.drew (Below.refl _ _))).mono ?_; rintro e w4 ⟨rfl, hc4, h4⟩; have h4 := Lib.hid h4; have hb5 : Below W.heap.size W w4 := hblq.out.drew.trans (hc4.below hszW hgB hgM)))
                  all_goals
                    have d0 := (KS.out _ hb5).1
                    go_wp2_with fail
                    refine (C29.out _ h4.out).mono ?_
                    rintro e w5 ⟨rfl, rfl⟩
                    go_wp2_with fail
                    refine (C31.out _ h4.out).mono ?_
                    rintro e w6 ⟨rfl, hb6⟩
                    have h6 := Lib.hid (h4.out.keep hb6)
                    have hb7 := Lib.hid (hb5.trans (hb6.mono hb5.size))
                    go_wp2_with fail
                    go_roundw
                    case rel => exact ⟨k + 1, by omega, by go_num, by rw [hT1.out], h6.out, hb7.out⟩
                    case measure => simp [intOf]; omega
          | succ l =>
            have ej : ((l + 1 : Nat) : Int) - 1 = (l : Int) := by omega
            rw [ej]
            obtain ⟨cl, cr2⟩ := hc.out l (by omega)
            have hll : (l : Int) < n := by omega
            have hh := Lib.hid (fun h : K l ≠ K k => look_miss hL.out h)
            have hh2 := Lib.hid (fun h : K l = K k => look_hit (R := R) (show l < k by omega) h)
            cases hxy : (K l == K k)
            · have hL2 := Lib.hid (hh.out (by simpa using hxy))
              go_wp2_with fail
              go_quiet (fail)
              go_wp2_with fail
              go_roundw
              case rel => exact ⟨l, q + nq, rma, first, by omega, rfl, rfl, by go_num, hL2, by simp⟩
              case measure => simp [intOf]
            · have hL2 := Lib.hid (hh2.out (by simpa using hxy))
              go_wp2_with fail
              go_quiet (fail)
              go_wp2_with fail
              go_roundw
              case rel => exact ⟨l, q + nq, R l, false, by omega, rfl, rfl, by go_num, hL2, by simp⟩
              case measure => simp [intOf]
      · obtain rfl : k = n := by omega
        have hlt' : ¬ (k : Int) < k := by omega
        go_wp2_with fail
        go_ret
        exact ⟨rfl, hbl⟩

end Go.Proofs.Ytmdkclgmibjlfaa.Ba
