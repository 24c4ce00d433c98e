/- What was put is read: the walk of CodecBack. -/
import Derived.Test.YtnkgbigjpihfeaaKb
import Derived.Deep.RegionHeld3
set_option linter.unusedVariables false
set_option linter.unusedSimpArgs false
namespace Go.Proofs.Ytnkgbigjpihfeaa.Kd
open Go.RowKit Go.Proofs.Ytnkgbigjpihfeaa.Lib

theorem ItOk.far {w : World} {t : It} (h : ItOk w t) {O : Nat} (hO : w.heap.size ≤ O) : 0 < t.n → ∀ p, t.a = some p → p.block < O := fun hp p e => by
  obtain ⟨b, o, e2, hb, _⟩ := h.ints.2 hp
  rw [e] at e2
  cases e2
  exact Nat.lt_of_lt_of_le hb hO

/-- Bytes were given, just these; R is left. -/
def gotPost (w : World) (I : Nat) (R : List Int) (n : Nat) (F : Nat → Int) (e : Ending) (w' : World) : Prop := ∃ a c, e = .returned (.slice a n c) ∧ IntsAt w' .u8 a n F ∧ InL w' I R false ∧ w.grownBy w' (some I)

theorem got_of {w w' : World} {I n : Nat} {F : Nat → Int} {R : List Int} {e : Ending} {base : Nat} (h : givesNew base w' (lof n F) e) (k : rdLeft w I R false w') : gotPost w I R n F e w' := by
  obtain ⟨a, c, rfl, hi, _⟩ := h
  rw [lof_len] at hi ⊢
  exact ⟨a, c, rfl, ints_congr hi (fun j hj => gtD_lof hj), k.1, k.2⟩

theorem bytes_back {w : World} {I n : Nat} {F : Nat → Int} {R : List Int} (h : InL w I (leB n 2 ++ lof n F ++ R) false) (hl : (leB n 2 ++ lof n F ++ R).length ≤ 1000000) (hn : n < 65536) :
    Calls Try.prog 34 #[.pointer (some ⟨I, 0, none⟩)] w fun e w' => gotPost w I R n F e w' := by
  refine (bytes_r h hl).mono ?_
  rw [rdB_back hn]
  rintro e w' ⟨h1, h2⟩
  exact got_of h1 h2
theorem plain_back {w : World} {I n : Nat} {F : Nat → Int} {R : List Int} (h : InL w I (lof n F ++ R) false) (hl : (lof n F ++ R).length ≤ 1000000) :
    Calls Try.prog 35 #[.pointer (some ⟨I, 0, none⟩), .int .i64 n] w fun e w' => gotPost w I R n F e w' := by
  refine (plain_r h n hl).mono ?_
  rw [rdT_back]
  rintro e w' ⟨h1, h2⟩
  exact got_of h1 h2
theorem bytes_same {w : World} {a1 a2 : Option Addr} {n c d : Nat} {F : Nat → Int} (h1 : IntsAt w .u8 a1 n F) (h2 : IntsAt w .u8 a2 n F) :
    Calls Try.prog 29 #[.slice a1 n c, .slice a2 n d] w fun e w' => e = .returned (.bool true) ∧ ∃ q, w' = w.drewN q := by
  refine (bytes_eq h1 h2).mono ?_
  rintro e w' ⟨rfl, h⟩
  exact ⟨by simp, h⟩

set_option maxRecDepth 100000 in
set_option maxHeartbeats 1600000 in
theorem codecBack_walk (a : Option Addr) (n c : Nat) (T : Nat → It) (W : World) (h : ItemsAt W a n T) :
    Calls Try.prog 6 #[.slice a n c] W fun e w' => e = .returned (.bool true) ∧ Below W.heap.size W w' := by
  have hbig := h.1
  have H15 : Hid (∀ w', Calls Try.prog 15 #[] w' fun e w'' => e = .returned (.bool true) ∧ Below w'.heap.size w' w'') := Lib.hid awake02
  have H := Lib.hid h
  clear h
  go_enter Try.func6, Try.ntmps6
  go_wp2_with fail
  refine (H15.out W).mono ?_
  rintro e w1 ⟨rfl, b1⟩
  have H25 := Lib.hid (few_any (c := c) (H.out.below b1))
  replace b1 := Lib.hid b1
  go_wp2_with fail
  refine H25.out.mono ?_
  rintro e w2 ⟨rfl, b, rfl, hb⟩
  replace hb := Lib.hid hb
  cases b with
  | false =>
    go_wp2_with fail
    refine (H15.out _).mono ?_
    rintro e w3 ⟨rfl, b3⟩
    go_wp2_with fail
    go_ret
    exact ⟨rfl, b1.out.trans (b3.mono b1.out.size)⟩
  | true =>
    obtain ⟨hn60, hsum⟩ := hb.out rfl
    replace hsum := Lib.hid hsum
    go_wp2_with fail
    have hs1 := b1.out.size
    have h0 := Lib.hid (newOut w2)
    have hb0 := Lib.hid (b1.out.trans ((Below.refl W.heap.size w2).alloc hs1 (.cells #[.slice none 0 0, .bool false] 39)))
    generalize w2.alloc (.cells #[.slice none 0 0, .bool false] 39) = wa at *
    generalize hO : w2.heap.size = O at *
    go_loopw [21] (fun i wr => ∃ (k : Nat) (v : Value), k ≤ n ∧ i = .int .i64 k ∧ Hid (OutAt wr O v (stL T k).1 (stL T k).2) ∧ Hid (Below W.heap.size W wr)) (fun i _ => n - (intOf i).toNat)
    case atStart => exact ⟨0, _, Nat.zero_le _, rfl, Lib.hid h0.out, hb0⟩
    case round =>
      obtain ⟨k, v, hk, rfl, hst, hbl⟩ := hrel
      by_cases hlt : k < n
      · have hlt' : (k : Int) < n := by omega
        have Hr := H.out.below (hbl.out.mono (Nat.le_refl _))
        obtain ⟨b, o, rfl, hbb, hc⟩ := Hr.2.1 (by omega)
        obtain ⟨c0, c1, c2, c3, c4⟩ := hc k hlt
        have hl := stL_len T k
        have hs := hsum.out k hk
        have hs' := hsum.out (k + 1) hlt
        have hsk : sumN T (k + 1) = sumN T k + (T k).n := rfl
        have HP := put_s hst.out (Hr.2.2 k hlt) ((H.out.2.2 k hlt).far (by omega)) (by omega) (by omega)
        rw [show (putL (stL T k).1 (stL T k).2 (T k)) = stL T (k + 1) from rfl] at HP
        replace HP := Lib.hid HP
        unfold itV at HP
        clear hc Hr hl hs hs' hsk
        go_wp2_with fail
        refine HP.out.mono ?_
        rintro e w3 ⟨rfl, v', h1, h2⟩
        have h1 := Lib.hid h1
        have hb2 := Lib.hid (hbl.out.trans ((h2.below hst.out).mono (show W.heap.size ≤ O by omega)))
        clear h2
        go_wp2_with fail
        exact ⟨⟨k + 1, v', by omega, by go_num, h1, hb2⟩, by simp [intOf]; omega⟩
      · obtain rfl : k = n := by omega
        have hlt' : ¬ (k : Int) < k := by omega
        cases hbad : (stL T k).2
        · have hE := stL_all hbad
          have hlen := stL_len T k
          have hsk := hsum.out k (Nat.le_refl _)
          rw [hbad] at hst
          have H28 := Lib.hid (end_s hst.out (by omega))
          have hst' := Lib.hid hbad
          replace hbad := hst'
          have hRl : Hid (∀ j, j ≤ k → (restE T j (k - j)).length ≤ 1000000) := Lib.hid (fun j hj => by have := restE_len hbad.out hj; omega)
          have hG : Hid (∀ j, j < k → itGood (T j)) := Lib.hid (fun j hj => stL_good hbad.out hj)
          have hok : Hid (okB (restE T 0 k)) := Lib.hid (okB_restE k 0 (fun i hi => (H.out.2.2 i (by omega)).wf))
          rw [hE] at H28 hlen
          clear hst hst' hE h0 hb0
          go_wp2_with fail
          refine H28.out.mono ?_
          rintro e w3 ⟨a3, c3, rfl, hi3, hn3, _, _, _, b3⟩
          have hbs := hbl.out.size
          have hb3 := Lib.hid (hbl.out.trans (b3.mono hbs))
          have H16 := Lib.hid (newIn_l (c := c3) hi3 (fun e => (hn3 e).1) (by omega) (fun j hj => hok.out _ (by
            have : (restE T 0 k).getD j 0 = (restE T 0 k)[j] := by simp [List.getD, hj]
            show (restE T 0 k).getD j 0 ∈ _
            rw [this]
            exact List.getElem_mem hj)))
          rw [show lof (restE T 0 k).length (fun j => (restE T 0 k).getD j 0) = restE T 0 k from lof_gtD _] at H16
          clear hi3 hn3 b3 H28 hbl
          generalize (restE T 0 k).length = N3 at *
          go_wp2_with fail
          refine H16.out.mono ?_
          rintro e w4 ⟨I, rfl, hI, hIs, b4⟩
          have hbs3 := hb3.out.size
          have hb4 := Lib.hid (hb3.out.trans (b4.mono hbs3))
          replace hI := Lib.hid hI
          clear b4 hb3
          go_wp2_with fail
          go_loopw [43] (fun i wr => ∃ (j : Nat), j ≤ k ∧ i = .int .i64 j ∧ Hid (InL wr I (restE T j (k - j)) false) ∧ Hid (Below W.heap.size W wr)) (fun i _ => k - (intOf i).toNat)
          case atStart => exact ⟨0, Nat.zero_le _, rfl, hI, hb4⟩
          case round =>
            obtain ⟨j, hj, rfl, hst, hbl⟩ := hrel
            by_cases hlt : j < k
            · have hlt' : (j : Int) < k := by omega
              have Hr := H.out.below (hbl.out.mono (Nat.le_refl _))
              obtain ⟨b, o, rfl, hbb, hc⟩ := Hr.2.1 (by omega)
              obtain ⟨c0, c1, c2, c3', c4⟩ := hc j hlt
              have ht := Lib.hid (H.out.2.2 j hlt)
              have hIl := hst.out.lt
              have hg := Lib.hid (hG.out j hlt)
              rw [restE_step hlt] at hst
              have hRL := hRl.out j (by omega)
              rw [restE_step hlt] at hRL
              obtain ⟨R, hR⟩ : ∃ R, restE T (j + 1) (k - (j + 1)) = R := ⟨_, rfl⟩
              rw [hR] at hst hRL
              replace hR := Lib.hid hR
              clear Hr hc
              generalize T j = t at *
              obtain ⟨tk, tv, tl, tf, ta, tn, tc, tF⟩ := t
              simp only at *
              have hbs5 := hbl.out.size
              obtain ⟨wx, hwx⟩ : ∃ wx, wr.alloc (.cells #[.int .u8 tk, .int .i64 tv, .int .i64 tl, .bool tf, .slice ta tn tc] 33) = wx := ⟨_, rfl⟩
              have hxb : Below wr.heap.size wr wx := by rw [← hwx]; exact (Below.refl _ _).alloc (Nat.le_refl _) _
              have hxs : wx.heap.size = wr.heap.size + 1 := by rw [← hwx]; simp
              have hxn : wx.heap[wr.heap.size]? = some (.cells #[.int .u8 tk, .int .i64 tv, .int .i64 tl, .bool tf, .slice ta tn tc] 33 (0, 0)) := by rw [← hwx]; exact heap_alloc_new _ _
              have KX : Hid (∀ w', wx.grownBy w' (some I) → w'.heap[wr.heap.size]? = some (.cells #[.int .u8 tk, .int .i64 tv, .int .i64 tl, .bool tf, .slice ta tn tc] 33 (0, 0))) := Lib.hid (fun w' hg' => (hg'.block wr.heap.size (by omega) (fun e => by injection e with e; omega)).trans hxn)
              have KC0 : wx.cell? ⟨wr.heap.size, 0, none⟩ = some (.int .u8 tk) := by simp [World.cell?, hxn]
              have KB : Hid (∀ w', wx.grownBy w' (some I) → Below W.heap.size W w') := Lib.hid (fun w' hg' => (hbl.out.trans (hxb.mono hbs5)).trans ((grown_below hg' (by omega)).mono (by omega)))
              have KD : Hid (wx.grownBy wx.drew (some I)) := Lib.hid (grown_of_below (Below.refl _ _).drew)
              have KI := Lib.hid ((hst.out.keep hxb).keep (Below.drew (Below.refl _ _)))
              have hbI : Hid (∀ w', wx.grownBy w' (some I) → IntsAt w' .u8 ta tn tF) := Lib.hid (fun w' hg' => ht.out.ints.below (KB.out w' hg'))
              replace hxn := Lib.hid hxn
              replace hxb := Lib.hid hxb
              replace hwx := Lib.hid hwx
              replace hst := Lib.hid hst.out
              by_cases e0 : tk = 0
              · subst e0
                have C : Hid (Calls Try.prog 20 #[.pointer (some ⟨I, 0, none⟩)] wx.drew fun e w' => e = .returned (.int .i64 tv) ∧ InL w' I R false ∧ wx.drew.grownBy w' (some I)) := Lib.hid (by
                  have := u8_r KI.out
                  have hv := hg.out.1 rfl
                  simp only [itE, if_true] at this
                  rw [rdN_back hv.1 (by rw [p1]; exact hv.2)] at this
                  exact this)
                have KC : Hid (∀ w', wx.grownBy w' (some I) → w'.cell? ⟨wr.heap.size, 1, none⟩ = some (.int .i64 tv)) := Lib.hid (fun w' hg' => by simp [World.cell?, KX.out w' hg'])
                go_wp2_with fail
                rw [hwx.out]
                go_region_held3 (fun w' => w'.cell? ⟨wr.heap.size, 1, none⟩ = some (.int .i64 tv))
                  (first
                    | exact KC.out _ KD.out
                    | exact KC.out _ hg6
                    | go_keep)
                  (first
                    | (go_at_call 20; refine C.out.mono ?_; rintro e w6 ⟨rfl, hI6, hg6⟩; replace hg6 := grown_trans KD.out hg6; replace hI6 := Lib.hid hI6))
                go_wp2_with fail
                exact ⟨⟨j + 1, by omega, by go_num, by rw [hR.out]; exact hI6, Lib.hid (KB.out _ hg6)⟩, by simp [intOf]; omega⟩
              by_cases e1 : tk = 1
              · subst e1
                have C : Hid (Calls Try.prog 30 #[.pointer (some ⟨I, 0, none⟩)] wx.drew fun e w' => e = .returned (.int .i64 tv) ∧ InL w' I R false ∧ wx.drew.grownBy w' (some I)) := Lib.hid (by
                  have := u16_r KI.out
                  have hv := hg.out.2.1 rfl
                  rw [show itE ⟨1, tv, tl, tf, ta, tn, tc, tF⟩ = leB tv 2 from by simp [itE], rdN_back hv.1 (by rw [p2]; exact hv.2)] at this
                  exact this)
                have KC : Hid (∀ w', wx.grownBy w' (some I) → w'.cell? ⟨wr.heap.size, 1, none⟩ = some (.int .i64 tv)) := Lib.hid (fun w' hg' => by simp [World.cell?, KX.out w' hg'])
                go_wp2_with fail
                rw [hwx.out]
                go_region_held3 (fun w' => w'.cell? ⟨wr.heap.size, 1, none⟩ = some (.int .i64 tv))
                  (first
                    | exact KC.out _ KD.out
                    | exact KC.out _ hg6
                    | go_keep)
                  (first
                    | (go_at_call 30; refine C.out.mono ?_; rintro e w6 ⟨rfl, hI6, hg6⟩; replace hg6 := grown_trans KD.out hg6; replace hI6 := Lib.hid hI6))
                go_wp2_with fail
                exact ⟨⟨j + 1, by omega, by go_num, by rw [hR.out]; exact hI6, Lib.hid (KB.out _ hg6)⟩, by simp [intOf]; omega⟩
              by_cases e2 : tk = 2
              · subst e2
                have C : Hid (Calls Try.prog 31 #[.pointer (some ⟨I, 0, none⟩)] wx.drew fun e w' => e = .returned (.int .i64 tv) ∧ InL w' I R false ∧ wx.drew.grownBy w' (some I)) := Lib.hid (by
                  have := u32_r KI.out
                  have hv := hg.out.2.2.1 rfl
                  rw [show itE ⟨2, tv, tl, tf, ta, tn, tc, tF⟩ = leB tv 4 from by simp [itE], rdN_back hv.1 (by rw [p4]; exact hv.2)] at this
                  exact this)
                have KC : Hid (∀ w', wx.grownBy w' (some I) → w'.cell? ⟨wr.heap.size, 1, none⟩ = some (.int .i64 tv)) := Lib.hid (fun w' hg' => by simp [World.cell?, KX.out w' hg'])
                go_wp2_with fail
                rw [hwx.out]
                go_region_held3 (fun w' => w'.cell? ⟨wr.heap.size, 1, none⟩ = some (.int .i64 tv))
                  (first
                    | exact KC.out _ KD.out
                    | exact KC.out _ hg6
                    | go_keep)
                  (first
                    | (go_at_call 31; refine C.out.mono ?_; rintro e w6 ⟨rfl, hI6, hg6⟩; replace hg6 := grown_trans KD.out hg6; replace hI6 := Lib.hid hI6))
                go_wp2_with fail
                exact ⟨⟨j + 1, by omega, by go_num, by rw [hR.out]; exact hI6, Lib.hid (KB.out _ hg6)⟩, by simp [intOf]; omega⟩
              by_cases e3 : tk = 3
              · subst e3
                have C : Hid (Calls Try.prog 32 #[.pointer (some ⟨I, 0, none⟩)] wx.drew fun e w' => e = .returned (.int .i64 tl) ∧ InL w' I R false ∧ wx.drew.grownBy w' (some I)) := Lib.hid (by
                  have := i64_r KI.out
                  have hl0 := ht.out.l0
                  have hl1 := ht.out.l1
                  rw [show itE ⟨3, tv, tl, tf, ta, tn, tc, tF⟩ = leB (tl % 18446744073709551616) 8 from by simp [itE], rdN_back (by omega) (by rw [p8]; omega)] at this
                  simp only at this
                  rw [wrap64_back hl0 hl1] at this
                  exact this)
                have KC : Hid (∀ w', wx.grownBy w' (some I) → w'.cell? ⟨wr.heap.size, 2, none⟩ = some (.int .i64 tl)) := Lib.hid (fun w' hg' => by simp [World.cell?, KX.out w' hg'])
                go_wp2_with fail
                rw [hwx.out]
                go_region_held3 (fun w' => w'.cell? ⟨wr.heap.size, 2, none⟩ = some (.int .i64 tl))
                  (first
                    | exact KC.out _ KD.out
                    | exact KC.out _ hg6
                    | go_keep)
                  (first
                    | (go_at_call 32; refine C.out.mono ?_; rintro e w6 ⟨rfl, hI6, hg6⟩; replace hg6 := grown_trans KD.out hg6; replace hI6 := Lib.hid hI6))
                go_wp2_with fail
                exact ⟨⟨j + 1, by omega, by go_num, by rw [hR.out]; exact hI6, Lib.hid (KB.out _ hg6)⟩, by simp [intOf]; omega⟩
              by_cases e4 : tk = 4
              · subst e4
                have C : Hid (Calls Try.prog 33 #[.pointer (some ⟨I, 0, none⟩)] wx.drew fun e w' => e = .returned (.bool tf) ∧ InL w' I R false ∧ wx.drew.grownBy w' (some I)) := Lib.hid (by
                  have := flag_r KI.out
                  rw [show itE ⟨4, tv, tl, tf, ta, tn, tc, tF⟩ = leB (if tf = true then 1 else 0) 1 from by simp [itE], rdF_back] at this
                  exact this)
                have KC : Hid (∀ w', wx.grownBy w' (some I) → w'.cell? ⟨wr.heap.size, 3, none⟩ = some (.bool tf)) := Lib.hid (fun w' hg' => by simp [World.cell?, KX.out w' hg'])
                go_wp2_with fail
                rw [hwx.out]
                go_region_held3 (fun w' => w'.cell? ⟨wr.heap.size, 3, none⟩ = some (.bool tf))
                  (first
                    | exact KC.out _ KD.out
                    | exact KC.out _ hg6
                    | go_keep)
                  (first
                    | (go_at_call 33; refine C.out.mono ?_; rintro e w6 ⟨rfl, hI6, hg6⟩; replace hg6 := grown_trans KD.out hg6; replace hI6 := Lib.hid hI6))
                go_wp2_with fail
                exact ⟨⟨j + 1, by omega, by go_num, by rw [hR.out]; exact hI6, Lib.hid (KB.out _ hg6)⟩, by simp [intOf]; omega⟩
              by_cases e5 : tk = 5
              · subst e5
                have C : Hid (Calls Try.prog 34 #[.pointer (some ⟨I, 0, none⟩)] wx.drew fun e w' => gotPost wx.drew I R tn tF e w') := Lib.hid (by
                  have := KI.out
                  rw [show itE ⟨5, tv, tl, tf, ta, tn, tc, tF⟩ = leB tn 2 ++ lof tn tF from by simp [itE]] at this hRL
                  exact bytes_back this hRL (hg.out.2.2.2 rfl))
                have KC : Hid (∀ w', wx.grownBy w' (some I) → w'.cell? ⟨wr.heap.size, 4, none⟩ = some (.slice ta tn tc)) := Lib.hid (fun w' hg' => by simp [World.cell?, KX.out w' hg'])

                go_wp2_with fail
                rw [hwx.out]
                go_region_held3 (fun w' => w'.cell? ⟨wr.heap.size, 4, none⟩ = some (.slice ta tn tc))
                  (first
                    | exact KC.out _ KD.out
                    | exact KC.out _ hg6
                    | exact KC.out _ hg7
                    | go_keep)
                  (first
                    | (go_at_call 34; refine C.out.mono ?_; rintro e w6 ⟨a5, c5, rfl, hi5, hI6, hg6⟩; replace hg6 := grown_trans KD.out hg6; replace hI6 := Lib.hid hI6; replace hi5 := Lib.hid hi5)
                    | (go_at_call 29; refine (bytes_same hi5.out (hbI.out _ hg6)).mono ?_; rintro e w7 ⟨rfl, q, rfl⟩; have hg7 := grown_trans hg6 (grown_of_below (below_dn _ _ q))))
                go_wp2_with fail
                exact ⟨⟨j + 1, by omega, by go_num, by rw [hR.out]; exact Lib.hid (hI6.out.keep (below_dn _ _ _)), Lib.hid (KB.out _ hg7)⟩, by simp [intOf]; omega⟩
              · have C : Hid (Calls Try.prog 35 #[.pointer (some ⟨I, 0, none⟩), .int .i64 tn] wx.drew fun e w' => gotPost wx.drew I R tn tF e w') := Lib.hid (by
                  have := KI.out
                  rw [show itE ⟨tk, tv, tl, tf, ta, tn, tc, tF⟩ = lof tn tF from by simp [itE, e0, e1, e2, e3, e4, e5]] at this hRL
                  exact plain_back this hRL)
                have KC : Hid (∀ w', wx.grownBy w' (some I) → w'.cell? ⟨wr.heap.size, 4, none⟩ = some (.slice ta tn tc)) := Lib.hid (fun w' hg' => by simp [World.cell?, KX.out w' hg'])

                go_wp2_with fail
                rw [hwx.out]
                go_region_held3 (fun w' => w'.cell? ⟨wr.heap.size, 4, none⟩ = some (.slice ta tn tc))
                  (first
                    | exact KC.out _ KD.out
                    | exact KC.out _ hg6
                    | exact KC.out _ hg7
                    | go_keep)
                  (first
                    | (go_at_call 35; refine C.out.mono ?_; rintro e w6 ⟨a5, c5, rfl, hi5, hI6, hg6⟩; replace hg6 := grown_trans KD.out hg6; replace hI6 := Lib.hid hI6; replace hi5 := Lib.hid hi5)
                    | (go_at_call 29; refine (bytes_same hi5.out (hbI.out _ hg6)).mono ?_; rintro e w7 ⟨rfl, q, rfl⟩; have hg7 := grown_trans hg6 (grown_of_below (below_dn _ _ q))))
                go_wp2_with fail
                exact ⟨⟨j + 1, by omega, by go_num, by rw [hR.out]; exact Lib.hid (hI6.out.keep (below_dn _ _ _)), Lib.hid (KB.out _ hg7)⟩, by simp [intOf]; omega⟩
            · obtain rfl : j = k := by omega
              have hlt' : ¬ (j : Int) < j := by omega
              rw [show restE T j (j - j) = [] from by simp [restE]] at hst
              have H23 := Lib.hid (done_r hst.out)
              have H19 := Lib.hid (bad_r hst.out)
              have H21 := Lib.hid (left_r hst.out)
              go_wp2_with fail
              refine H23.out.mono ?_
              rintro e w5 ⟨rfl, rfl⟩
              go_wp2_with fail
              refine H19.out.mono ?_
              rintro e w5 ⟨rfl, rfl⟩
              go_wp2_with fail
              refine H21.out.mono ?_
              rintro e w5 ⟨rfl, rfl⟩
              go_wp2_with fail
              go_ret
              exact ⟨rfl, hbl.out⟩
        · rw [hbad] at hst
          have H28 := Lib.hid (end_bad hst.out)
          go_wp2_with fail
          refine H28.out.mono ?_
          rintro e w3 ⟨rfl, rfl⟩
          go_wp2_with fail
          go_ret
          exact ⟨rfl, hbl.out⟩

end Go.Proofs.Ytnkgbigjpihfeaa.Kd
