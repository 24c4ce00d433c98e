/- Whatever is asked of any bytes: the walk of CodecReads. -/
import Derived.Test.YtnkgbigjpihfeaaKg
set_option linter.unusedVariables false
set_option linter.unusedSimpArgs false
namespace Go.Proofs.Ytnkgbigjpihfeaa.Kd
open Go.RowKit Go.Proofs.Ytnkgbigjpihfeaa.Lib

theorem kind6 {k : Int} (h : 0 ≤ k) (e0 : ¬ k = 0) (e1 : ¬ k = 1) (e2 : ¬ k = 2) (e3 : ¬ k = 3) (e4 : ¬ k = 4) (e5 : ¬ k = 5) : ¬ k < 6 := by omega
theorem kindN {k : Int} (e0 : ¬ k = 0) (e1 : ¬ k = 1) (e2 : ¬ k = 2) (e3 : ¬ k = 3) (e4 : ¬ k = 4) (e5 : ¬ k = 5) : ¬ (k = 0 ∨ k = 1 ∨ k = 2 ∨ k = 3 ∨ k = 4 ∨ k = 5) := by simp only [e0, e1, e2, e3, e4, e5, or_self, not_false_eq_true]

theorem vnc {vn m cR : Nat} (h : ¬ cR = vn + 2) (h1 : 2 ≤ m) (h2 : m ≤ cR) : ¬ cR - 2 = vn := by omega
theorem ncz (n : Nat) : ((n : Nat) : Int) = 0 ↔ n = 0 := by omega
theorem meas {j n : Nat} (h : j < n) : n - (j + 1) < n - j := by omega
theorem vnle {vn m c : Nat} {V : Int} (h : ¬ (((m + 2 : Nat) : Int) - 2 < V)) (h0 : 0 ≤ V) (hv : V.toNat = vn) (hc : m ≤ c) : ((vn : Int) = V) ∧ vn ≤ m ∧ ¬ ((m : Int) < V) ∧ V ≤ (c : Int) := by omega
theorem vn0 {vn m cR : Nat} (h : vn ≤ m - 2) (h2 : m ≤ cR) : cR = 2 → vn = 0 := by omega
set_option maxRecDepth 100000 in
set_option maxHeartbeats 64000000 in
theorem codecReads_walk (a : Option Addr) (n c : Nat) (F : Nat → Int) (a2 : Option Addr) (n2 c2 : Nat) (T : Nat → It) (W : World) (h : IntsAt W .u8 a n F) (ha : a = none → n = 0 ∧ c = 0) (hnc : n ≤ c) (hF : ∀ j, j < n → 0 ≤ F j ∧ F j < 256) (h2 : ItemsAt W a2 n2 T) :
    Calls Try.prog 4 #[.slice a n c, .slice a2 n2 c2] W fun e w' => e = .returned (.bool true) ∧ Below W.heap.size W w' := by
  have hbig := h.1
  have hbig2 := h2.1
  have H15 : Hid (∀ w', Calls Try.prog 15 #[] w' fun e w'' => e = .returned (.bool true) ∧ Below w'.heap.size w' w'') := Lib.hid awake02
  have H := Lib.hid h
  have H2 := Lib.hid h2
  replace hF := Lib.hid hF
  replace ha := Lib.hid ha
  clear h h2
  by_cases hn : 5000 < n
  · have hn' : (5000 : Int) < n := by omega
    go_enter Try.func4, Try.ntmps4
    go_wp2_with fail
    refine (H15.out W).mono ?_
    rintro e w1 ⟨rfl, b1⟩
    go_wp2_with fail
    refine (H15.out _).mono ?_
    rintro e w3 ⟨rfl, b3⟩
    go_wp2_with fail
    go_ret
    exact ⟨rfl, b1.trans (b3.mono b1.size)⟩
  have hn' : ¬ (5000 : Int) < n := by omega
  by_cases hm : 60 < n2
  · have hm' : (60 : Int) < n2 := by omega
    go_enter Try.func4, Try.ntmps4
    go_wp2_with fail
    refine (H15.out W).mono ?_
    rintro e w1 ⟨rfl, b1⟩
    go_wp2_with fail
    refine (H15.out _).mono ?_
    rintro e w3 ⟨rfl, b3⟩
    go_wp2_with fail
    go_ret
    exact ⟨rfl, b1.trans (b3.mono b1.size)⟩
  have hm' : ¬ (60 : Int) < n2 := by omega
  go_enter Try.func4, Try.ntmps4
  go_wp2_with fail
  refine (H15.out W).mono ?_
  rintro e w1 ⟨rfl, b1⟩
  have hs1 := b1.size
  have H16 := Lib.hid (newIn_l (c := c) (H.out.below b1) (fun e => (ha.out e).1) (by omega) hF.out)
  have hi1 := Lib.hid (H.out.below b1)
  replace b1 := Lib.hid b1
  go_wp2_with fail
  refine H16.out.mono ?_
  rintro e w2 ⟨I, rfl, hI, hIs, b2⟩
  have hb2 := Lib.hid (b1.out.trans (b2.mono hs1))
  have hs2 := b2.size
  have hIl := hI.lt
  have hi2 := Lib.hid (hi1.out.below b2)
  replace hI := Lib.hid hI
  clear b2 H16 hi1
  have hokF : Hid (okB (lof n F)) := Lib.hid (okB_lof hF.out)
  obtain ⟨i5, hi5, hz0, hz1, hz2⟩ := info_parts info5
  go_wp2_with (first
    | (at_builtin; refine append_bytes rfl _ _ rfl w2.heap.size (.slice (some ⟨w2.heap.size, 0, none⟩) 0 0) [] rfl (World.ownsRow_made w2 #[] 0 (Nat.le_refl _) (by decide) rfl) a n c F rfl (hi2.out.below ((Below.refl _ _).alloc (Nat.le_refl _) _)) ha.out (by simp; omega) (by simp) ?_; intro v' w5 hown5 hgrow hat; rw [List.nil_append] at hown5; obtain ⟨aR, cR, rfl, hR⟩ := own_rest hown5 (by simp [lof_len]; omega) hIl hokF.out; replace hR := Lib.hid hR; replace hown5 := Lib.hid hown5; replace hat := Lib.hid hat))
  have hR0 : RestAt w5 I aR (lof n F).length cR (lof n F) := hR.out
  have hll : (lof n F).length ≤ 5000 := by rw [lof_len]; omega
  have hbm := made_below (v := .slice (some ⟨w2.heap.size, 0, none⟩) 0 0) rfl hgrow
  have hb5 : Hid (Below W.heap.size W w5) := Lib.hid (hb2.out.trans (hbm.mono (by omega)))
  have hI5 : InL w5 I (cur (lof n F) false) false := hI.out.keep hbm
  clear hbm
  replace hR0 := Lib.hid hR0
  replace hll := Lib.hid hll
  replace hI5 := Lib.hid hI5
  clear hown5 hgrow hat hR
  generalize (lof n F).length = N0 at *
  go_loopw [6, 7, 32] (fun r bv i wr => ∃ (j : Nat) (aR : Option Addr) (m cR : Nat) (L : List Int) (bad : Bool), j ≤ n2 ∧ i = .int .i64 j ∧ r = .slice aR m cR ∧ bv = .bool bad ∧ Hid (RestAt wr I aR m cR L) ∧ Hid (m ≤ 5000) ∧ Hid (InL wr I (cur L bad) bad) ∧ Hid (Below W.heap.size W wr)) (fun _ _ i _ => n2 - (intOf i).toNat)
  case atStart => exact ⟨0, _, _, _, _, _, Nat.zero_le _, rfl, rfl, rfl, hR0, hll, hI5, hb5⟩
  case round =>
    obtain ⟨j, aR, m, cR, L, bad, hj, rfl, rfl, rfl, hst, hm5, hin, hbl⟩ := hrel
    by_cases hlt : j < n2
    · have hlt' : (j : Int) < n2 := by omega
      have Hr := H2.out.below (hbl.out.mono (Nat.le_refl _))
      obtain ⟨b, o, rfl, hbb, hc⟩ := Hr.2.1 (by omega)
      obtain ⟨c0, c1, c2', c3, c4⟩ := hc j hlt
      have tk0 := (Hr.2.2 j hlt).k0
      have tk1 := (Hr.2.2 j hlt).k1
      have hv0 := (Hr.2.2 j hlt).v0
      have hv1 := (Hr.2.2 j hlt).v1
      have hrl := Lib.hid hst.out.len
      have hrr := hst.out.room
      have hrb := hst.out.ints.1
      clear Hr hc
      generalize T j = t at *
      obtain ⟨tk, tv, tl, tf, ta, tn, tc, tF⟩ := t
      simp only at *
      have hIr := hin.out.lt
      have hIw : W.heap.size ≤ I := by omega
      replace hrr := Lib.hid hrr
      replace hrb := Lib.hid hrb
      cases bad with
      | true =>
        have C22 : Hid (∀ w', Below wr.heap.size wr w' → Calls Try.prog 22 #[.pointer (some ⟨I, 0, none⟩), .agg #[.int .u8 tk, .int .i64 tv, .int .i64 tl, .bool tf, .slice ta tn tc], .int .u64 0, .slice none 0 0, .bool true] w' fun e w'' => e = .returned (.bool true) ∧ rdLeft w' I [] true w'') := Lib.hid (fun w' hq =>
          read_r (t := ⟨tk, tv, tl, tf, ta, tn, tc, tF⟩) (hin.out.keep hq) tk0 tk1 (by simp [cur]) (by omega) (D := []) ⟨by simp, fun hp => absurd hp (by simp)⟩ rfl (fun p e => by cases e) (rd_bad_ok tk tv))
        have hcl : (cur L true).length ≤ 1000000 := by simp [cur]
        by_cases e0 : tk = 0
        · subst e0
          as_aux_lemma =>
            have C22 : Hid (∀ w', Below wr.heap.size wr w' → Calls Try.prog 22 #[.pointer (some ⟨I, 0, none⟩), .agg #[.int .u8 0, .int .i64 tv, .int .i64 tl, .bool tf, .slice ta tn tc], .int .u64 0, .slice none 0 0, .bool true] w' fun e w'' => e = .returned (.bool true) ∧ rdLeft w' I [] true w'') := Lib.hid (fun w' hq =>
              read_r (t := ⟨0, tv, tl, tf, ta, tn, tc, tF⟩) (hin.out.keep hq) tk0 tk1 hcl (by omega) (D := []) ⟨by simp, fun hp => absurd hp (by simp)⟩ rfl (fun p e => by cases e) (rd_bad_ok 0 tv))
            go_wp2_with fail
            refine (C22.out _ (by first | exact Below.refl _ _ | exact below_dn _ _ _ | exact (below_dn _ _ _).trans (below_dn _ _ _))).mono ?_
            rintro e w6 ⟨rfl, h6, g6⟩
            have H19 := Lib.hid (bad_r h6)
            have H23 := Lib.hid (done_r h6)
            have H21 := Lib.hid (left_r h6)
            replace h6 := Lib.hid h6
            replace g6 := Lib.hid g6
            go_wp2_with fail
            refine H19.out.mono ?_
            rintro e w7 ⟨rfl, rfl⟩
            go_wp2_with fail
            refine H23.out.mono ?_
            rintro e w7 ⟨rfl, rfl⟩
            go_wp2_with fail
            refine H21.out.mono ?_
            rintro e w7 ⟨rfl, rfl⟩
            go_wp2_with fail
            refine (left24 _ _ _ _ _).mono ?_
            rintro e w7 ⟨rfl, rfl⟩
            go_wp2_with fail
            refine ⟨⟨j + 1, _, _, _, L, _, hlt, rfl, rfl, rfl, ?_, ?_, ?_, ?_⟩, ?_⟩
            · exact Lib.hid (hst.out.grown g6.out)
            · exact hm5
            · exact h6
            · exact Lib.hid (hbl.out.trans ((grown_below g6.out hIr).mono hIw))
            · simp [intOf]
              first | exact meas hlt | omega
        by_cases e1 : tk = 1
        · subst e1
          as_aux_lemma =>
            have C22 : Hid (∀ w', Below wr.heap.size wr w' → Calls Try.prog 22 #[.pointer (some ⟨I, 0, none⟩), .agg #[.int .u8 1, .int .i64 tv, .int .i64 tl, .bool tf, .slice ta tn tc], .int .u64 0, .slice none 0 0, .bool true] w' fun e w'' => e = .returned (.bool true) ∧ rdLeft w' I [] true w'') := Lib.hid (fun w' hq =>
              read_r (t := ⟨1, tv, tl, tf, ta, tn, tc, tF⟩) (hin.out.keep hq) tk0 tk1 hcl (by omega) (D := []) ⟨by simp, fun hp => absurd hp (by simp)⟩ rfl (fun p e => by cases e) (rd_bad_ok 1 tv))
            go_wp2_with fail
            refine (C22.out _ (by first | exact Below.refl _ _ | exact below_dn _ _ _ | exact (below_dn _ _ _).trans (below_dn _ _ _))).mono ?_
            rintro e w6 ⟨rfl, h6, g6⟩
            have H19 := Lib.hid (bad_r h6)
            have H23 := Lib.hid (done_r h6)
            have H21 := Lib.hid (left_r h6)
            replace h6 := Lib.hid h6
            replace g6 := Lib.hid g6
            go_wp2_with fail
            refine H19.out.mono ?_
            rintro e w7 ⟨rfl, rfl⟩
            go_wp2_with fail
            refine H23.out.mono ?_
            rintro e w7 ⟨rfl, rfl⟩
            go_wp2_with fail
            refine H21.out.mono ?_
            rintro e w7 ⟨rfl, rfl⟩
            go_wp2_with fail
            refine (left24 _ _ _ _ _).mono ?_
            rintro e w7 ⟨rfl, rfl⟩
            go_wp2_with fail
            refine ⟨⟨j + 1, _, _, _, L, _, hlt, rfl, rfl, rfl, ?_, ?_, ?_, ?_⟩, ?_⟩
            · exact Lib.hid (hst.out.grown g6.out)
            · exact hm5
            · exact h6
            · exact Lib.hid (hbl.out.trans ((grown_below g6.out hIr).mono hIw))
            · simp [intOf]
              first | exact meas hlt | omega
        by_cases e2 : tk = 2
        · subst e2
          as_aux_lemma =>
            have C22 : Hid (∀ w', Below wr.heap.size wr w' → Calls Try.prog 22 #[.pointer (some ⟨I, 0, none⟩), .agg #[.int .u8 2, .int .i64 tv, .int .i64 tl, .bool tf, .slice ta tn tc], .int .u64 0, .slice none 0 0, .bool true] w' fun e w'' => e = .returned (.bool true) ∧ rdLeft w' I [] true w'') := Lib.hid (fun w' hq =>
              read_r (t := ⟨2, tv, tl, tf, ta, tn, tc, tF⟩) (hin.out.keep hq) tk0 tk1 hcl (by omega) (D := []) ⟨by simp, fun hp => absurd hp (by simp)⟩ rfl (fun p e => by cases e) (rd_bad_ok 2 tv))
            go_wp2_with fail
            refine (C22.out _ (by first | exact Below.refl _ _ | exact below_dn _ _ _ | exact (below_dn _ _ _).trans (below_dn _ _ _))).mono ?_
            rintro e w6 ⟨rfl, h6, g6⟩
            have H19 := Lib.hid (bad_r h6)
            have H23 := Lib.hid (done_r h6)
            have H21 := Lib.hid (left_r h6)
            replace h6 := Lib.hid h6
            replace g6 := Lib.hid g6
            go_wp2_with fail
            refine H19.out.mono ?_
            rintro e w7 ⟨rfl, rfl⟩
            go_wp2_with fail
            refine H23.out.mono ?_
            rintro e w7 ⟨rfl, rfl⟩
            go_wp2_with fail
            refine H21.out.mono ?_
            rintro e w7 ⟨rfl, rfl⟩
            go_wp2_with fail
            refine (left24 _ _ _ _ _).mono ?_
            rintro e w7 ⟨rfl, rfl⟩
            go_wp2_with fail
            refine ⟨⟨j + 1, _, _, _, L, _, hlt, rfl, rfl, rfl, ?_, ?_, ?_, ?_⟩, ?_⟩
            · exact Lib.hid (hst.out.grown g6.out)
            · exact hm5
            · exact h6
            · exact Lib.hid (hbl.out.trans ((grown_below g6.out hIr).mono hIw))
            · simp [intOf]
              first | exact meas hlt | omega
        by_cases e3 : tk = 3
        · subst e3
          as_aux_lemma =>
            have C22 : Hid (∀ w', Below wr.heap.size wr w' → Calls Try.prog 22 #[.pointer (some ⟨I, 0, none⟩), .agg #[.int .u8 3, .int .i64 tv, .int .i64 tl, .bool tf, .slice ta tn tc], .int .u64 0, .slice none 0 0, .bool true] w' fun e w'' => e = .returned (.bool true) ∧ rdLeft w' I [] true w'') := Lib.hid (fun w' hq =>
              read_r (t := ⟨3, tv, tl, tf, ta, tn, tc, tF⟩) (hin.out.keep hq) tk0 tk1 hcl (by omega) (D := []) ⟨by simp, fun hp => absurd hp (by simp)⟩ rfl (fun p e => by cases e) (rd_bad_ok 3 tv))
            go_wp2_with fail
            refine (C22.out _ (by first | exact Below.refl _ _ | exact below_dn _ _ _ | exact (below_dn _ _ _).trans (below_dn _ _ _))).mono ?_
            rintro e w6 ⟨rfl, h6, g6⟩
            have H19 := Lib.hid (bad_r h6)
            have H23 := Lib.hid (done_r h6)
            have H21 := Lib.hid (left_r h6)
            replace h6 := Lib.hid h6
            replace g6 := Lib.hid g6
            go_wp2_with fail
            refine H19.out.mono ?_
            rintro e w7 ⟨rfl, rfl⟩
            go_wp2_with fail
            refine H23.out.mono ?_
            rintro e w7 ⟨rfl, rfl⟩
            go_wp2_with fail
            refine H21.out.mono ?_
            rintro e w7 ⟨rfl, rfl⟩
            go_wp2_with fail
            refine (left24 _ _ _ _ _).mono ?_
            rintro e w7 ⟨rfl, rfl⟩
            go_wp2_with fail
            refine ⟨⟨j + 1, _, _, _, L, _, hlt, rfl, rfl, rfl, ?_, ?_, ?_, ?_⟩, ?_⟩
            · exact Lib.hid (hst.out.grown g6.out)
            · exact hm5
            · exact h6
            · exact Lib.hid (hbl.out.trans ((grown_below g6.out hIr).mono hIw))
            · simp [intOf]
              first | exact meas hlt | omega
        by_cases e4 : tk = 4
        · subst e4
          as_aux_lemma =>
            have C22 : Hid (∀ w', Below wr.heap.size wr w' → Calls Try.prog 22 #[.pointer (some ⟨I, 0, none⟩), .agg #[.int .u8 4, .int .i64 tv, .int .i64 tl, .bool tf, .slice ta tn tc], .int .u64 0, .slice none 0 0, .bool true] w' fun e w'' => e = .returned (.bool true) ∧ rdLeft w' I [] true w'') := Lib.hid (fun w' hq =>
              read_r (t := ⟨4, tv, tl, tf, ta, tn, tc, tF⟩) (hin.out.keep hq) tk0 tk1 hcl (by omega) (D := []) ⟨by simp, fun hp => absurd hp (by simp)⟩ rfl (fun p e => by cases e) (rd_bad_ok 4 tv))
            go_wp2_with fail
            refine (C22.out _ (by first | exact Below.refl _ _ | exact below_dn _ _ _ | exact (below_dn _ _ _).trans (below_dn _ _ _))).mono ?_
            rintro e w6 ⟨rfl, h6, g6⟩
            have H19 := Lib.hid (bad_r h6)
            have H23 := Lib.hid (done_r h6)
            have H21 := Lib.hid (left_r h6)
            replace h6 := Lib.hid h6
            replace g6 := Lib.hid g6
            go_wp2_with fail
            refine H19.out.mono ?_
            rintro e w7 ⟨rfl, rfl⟩
            go_wp2_with fail
            refine H23.out.mono ?_
            rintro e w7 ⟨rfl, rfl⟩
            go_wp2_with fail
            refine H21.out.mono ?_
            rintro e w7 ⟨rfl, rfl⟩
            go_wp2_with fail
            refine (left24 _ _ _ _ _).mono ?_
            rintro e w7 ⟨rfl, rfl⟩
            go_wp2_with fail
            refine ⟨⟨j + 1, _, _, _, L, _, hlt, rfl, rfl, rfl, ?_, ?_, ?_, ?_⟩, ?_⟩
            · exact Lib.hid (hst.out.grown g6.out)
            · exact hm5
            · exact h6
            · exact Lib.hid (hbl.out.trans ((grown_below g6.out hIr).mono hIw))
            · simp [intOf]
              first | exact meas hlt | omega
        by_cases e5 : tk = 5
        · subst e5
          as_aux_lemma =>
            have C22 : Hid (∀ w', Below wr.heap.size wr w' → Calls Try.prog 22 #[.pointer (some ⟨I, 0, none⟩), .agg #[.int .u8 5, .int .i64 tv, .int .i64 tl, .bool tf, .slice ta tn tc], .int .u64 0, .slice none 0 0, .bool true] w' fun e w'' => e = .returned (.bool true) ∧ rdLeft w' I [] true w'') := Lib.hid (fun w' hq =>
              read_r (t := ⟨5, tv, tl, tf, ta, tn, tc, tF⟩) (hin.out.keep hq) tk0 tk1 hcl (by omega) (D := []) ⟨by simp, fun hp => absurd hp (by simp)⟩ rfl (fun p e => by cases e) (rd_bad_ok 5 tv))
            go_wp2_with fail
            refine (C22.out _ (by first | exact Below.refl _ _ | exact below_dn _ _ _ | exact (below_dn _ _ _).trans (below_dn _ _ _))).mono ?_
            rintro e w6 ⟨rfl, h6, g6⟩
            have H19 := Lib.hid (bad_r h6)
            have H23 := Lib.hid (done_r h6)
            have H21 := Lib.hid (left_r h6)
            replace h6 := Lib.hid h6
            replace g6 := Lib.hid g6
            go_wp2_with fail
            refine H19.out.mono ?_
            rintro e w7 ⟨rfl, rfl⟩
            go_wp2_with fail
            refine H23.out.mono ?_
            rintro e w7 ⟨rfl, rfl⟩
            go_wp2_with fail
            refine H21.out.mono ?_
            rintro e w7 ⟨rfl, rfl⟩
            go_wp2_with fail
            refine (left24 _ _ _ _ _).mono ?_
            rintro e w7 ⟨rfl, rfl⟩
            go_wp2_with fail
            refine ⟨⟨j + 1, _, _, _, L, _, hlt, rfl, rfl, rfl, ?_, ?_, ?_, ?_⟩, ?_⟩
            · exact Lib.hid (hst.out.grown g6.out)
            · exact hm5
            · exact h6
            · exact Lib.hid (hbl.out.trans ((grown_below g6.out hIr).mono hIw))
            · simp [intOf]
              first | exact meas hlt | omega
        as_aux_lemma =>
          have C22 : Hid (∀ w', Below wr.heap.size wr w' → Calls Try.prog 22 #[.pointer (some ⟨I, 0, none⟩), .agg #[.int .u8 tk, .int .i64 tv, .int .i64 tl, .bool tf, .slice ta tn tc], .int .u64 0, .slice none 0 0, .bool true] w' fun e w'' => e = .returned (.bool true) ∧ rdLeft w' I [] true w'') := Lib.hid (fun w' hq =>
            read_r (t := ⟨tk, tv, tl, tf, ta, tn, tc, tF⟩) (hin.out.keep hq) tk0 tk1 hcl (by omega) (D := []) ⟨by simp, fun hp => absurd hp (by simp)⟩ rfl (fun p e => by cases e) (rd_bad_ok tk tv))
          go_wp2_with fail
          refine (C22.out _ (by first | exact Below.refl _ _ | exact below_dn _ _ _ | exact (below_dn _ _ _).trans (below_dn _ _ _))).mono ?_
          rintro e w6 ⟨rfl, h6, g6⟩
          have H19 := Lib.hid (bad_r h6)
          have H23 := Lib.hid (done_r h6)
          have H21 := Lib.hid (left_r h6)
          replace h6 := Lib.hid h6
          replace g6 := Lib.hid g6
          go_wp2_with fail
          refine H19.out.mono ?_
          rintro e w7 ⟨rfl, rfl⟩
          go_wp2_with fail
          refine H23.out.mono ?_
          rintro e w7 ⟨rfl, rfl⟩
          go_wp2_with fail
          refine H21.out.mono ?_
          rintro e w7 ⟨rfl, rfl⟩
          go_wp2_with fail
          refine (left24 _ _ _ _ _).mono ?_
          rintro e w7 ⟨rfl, rfl⟩
          go_wp2_with fail
          refine ⟨⟨j + 1, _, _, _, L, _, hlt, rfl, rfl, rfl, ?_, ?_, ?_, ?_⟩, ?_⟩
          · exact Lib.hid (hst.out.grown g6.out)
          · exact hm5
          · exact h6
          · exact Lib.hid (hbl.out.trans ((grown_below g6.out hIr).mono hIw))
          · simp [intOf]
            first | exact meas hlt | omega
      | false =>
        have hcu : cur L false = L := by simp [cur]
        rw [hcu] at hin
        have hcl : L.length ≤ 1000000 := by have := hm5.out; have := hrl.out; omega
        replace hcu := Lib.hid hcu
        by_cases e0 : tk = 0
        · subst e0
          by_cases hs : m < 1
          · have hs' : (m : Int) < 1 := by omega
            as_aux_lemma =>
              have C22 : Hid (∀ w', Below wr.heap.size wr w' → Calls Try.prog 22 #[.pointer (some ⟨I, 0, none⟩), .agg #[.int .u8 0, .int .i64 tv, .int .i64 tl, .bool tf, .slice ta tn tc], .int .u64 0, .slice none 0 0, .bool true] w' fun e w'' => e = .returned (.bool true) ∧ rdLeft w' I [] true w'') := Lib.hid (fun w' hq =>
                read_r (t := ⟨0, tv, tl, tf, ta, tn, tc, tF⟩) (hin.out.keep hq) tk0 tk1 hcl (by omega) (D := []) ⟨by simp, fun hp => absurd hp (by simp)⟩ rfl (fun p e => by cases e) (rd_short (k := 0) (v := tv) (fun _ => by have := hrl.out; omega) (fun h => absurd h (by decide)) (fun h => absurd h (by decide)) (fun h => absurd h (by decide)) (fun h => absurd h (by decide)) (fun h => absurd h (by decide)) (fun h => (h (by decide)).elim)))
              go_wp2_with fail
              refine (C22.out _ (by first | exact Below.refl _ _ | exact below_dn _ _ _ | exact (below_dn _ _ _).trans (below_dn _ _ _))).mono ?_
              rintro e w6 ⟨rfl, h6, g6⟩
              have H19 := Lib.hid (bad_r h6)
              have H23 := Lib.hid (done_r h6)
              have H21 := Lib.hid (left_r h6)
              replace h6 := Lib.hid h6
              replace g6 := Lib.hid g6
              go_wp2_with fail
              refine H19.out.mono ?_
              rintro e w7 ⟨rfl, rfl⟩
              go_wp2_with fail
              refine H23.out.mono ?_
              rintro e w7 ⟨rfl, rfl⟩
              go_wp2_with fail
              refine H21.out.mono ?_
              rintro e w7 ⟨rfl, rfl⟩
              go_wp2_with fail
              refine (left24 _ _ _ _ _).mono ?_
              rintro e w7 ⟨rfl, rfl⟩
              go_wp2_with fail
              refine ⟨⟨j + 1, _, _, _, L, _, hlt, rfl, rfl, rfl, ?_, ?_, ?_, ?_⟩, ?_⟩
              · exact Lib.hid (hst.out.grown g6.out)
              · exact hm5
              · exact h6
              · exact Lib.hid (hbl.out.trans ((grown_below g6.out hIr).mono hIw))
              · simp [intOf]
                first | exact meas hlt | omega
          · have hs' : ¬ (m : Int) < 1 := by omega
            have hs2 : (1 : Int) ≤ m := by omega
            have hs3 : (1 : Int) ≤ cR := by have := hrr.out; omega
            have hSm : 1 ≤ m := by omega
            have hSL : 1 ≤ L.length := by have := hrl.out; omega
            have hbd := leL_bounds (okB_take hst.out.ok 1)
            rw [show (L.take 1).length = 1 from by simp; omega, p1] at hbd
            obtain ⟨bR, oR, rfl⟩ := hst.out.nonempty (by omega)
            have C18 : Hid (∀ (c' : Nat) (w' : World), Below wr.heap.size wr w' → Calls Try.prog 18 #[.slice (some ⟨bR, oR, none⟩) 1 c'] w' fun e w'' => e = .returned (.int .u64 (leL (L.take 1))) ∧ w'' = w') := Lib.hid (fun c' w' hq => by
              have hx := (hst.out.below hq).take (k := 1) (by omega)
              have hy := refNumber (c := c') hx (by omega) (fun j hj => ok_gtD (okB_take hst.out.ok 1) j)
              have hz := lof_gtD (L.take 1)
              rw [show (L.take 1).length = 1 from by simp; omega] at hz
              rw [hz] at hy
              exact hy)
            have hN : Hid (cR = 1 → RestAt wr I (some ⟨bR, oR, none⟩) (m - 1) 0 (L.drop 1)) := Lib.hid (fun h => hst.out.dropA (by have := hrr.out; omega) (by omega) (fun e => by cases e) (fun p' e => ⟨p', e, rfl⟩))
            have hN2 : Hid (RestAt wr I (some ⟨bR, oR + 1, none⟩) (m - 1) (cR - 1) (L.drop 1)) := Lib.hid (hst.out.dropB hSm)
            have hLd : Hid ((L.drop 1).length = m - 1) := Lib.hid (by have := hrl.out; simp; omega)
            as_aux_lemma =>
              have C22 : Hid (∀ (c' : Nat) (w' : World), Below wr.heap.size wr w' → Calls Try.prog 22 #[.pointer (some ⟨I, 0, none⟩), .agg #[.int .u8 0, .int .i64 tv, .int .i64 tl, .bool tf, .slice ta tn tc], .int .u64 (leL (L.take 1)), .slice (some ⟨bR, oR, none⟩) 1 c', .bool false] w' fun e w'' => e = .returned (.bool true) ∧ rdLeft w' I (L.drop 1) false w'') := Lib.hid (fun c' w' hq =>
                read_r (t := ⟨0, tv, tl, tf, ta, tn, tc, tF⟩) (hin.out.keep hq) tk0 tk1 hcl (by omega) ((hst.out.below hq).take hSm) (hst.out.takeLen hSm) hst.out.far (rd_num (k := 0) (S := 1) (by omega) hSL))
              generalize hVV : leL (L.take 1) = V at *
              replace hVV := Lib.hid hVV
              by_cases hcS : cR = 1
              all_goals
                go_wp2_with fail
                refine (C18.out _ _ (by first | exact Below.refl _ _ | exact below_dn _ _ _)).mono ?_
                rintro e w4 ⟨rfl, rfl⟩
                go_wp2_with fail
                go_quiet (fail)
                go_wp2_with fail
                refine (C22.out _ _ (by first | exact Below.refl _ _ | exact below_dn _ _ _ | exact (below_dn _ _ _).trans (below_dn _ _ _))).mono ?_
                rintro e w6 ⟨rfl, h6, g6⟩
                have H19 := Lib.hid (bad_r h6)
                have H23 := Lib.hid (done_r h6)
                have H21 := Lib.hid (left_r h6)
                have hzz : ((m - 1 : Nat) : Int) = 0 ↔ L.drop 1 = [] := by
                  have := hLd.out
                  rw [← List.length_eq_zero_iff, this]
                  exact ncz _
                rw [hLd.out] at H21
                obtain ⟨Z, hZ⟩ : ∃ Z, decide (L.drop 1 = []) = Z := ⟨_, rfl⟩
                have hZ2 : (((m - 1 : Nat) : Int) == 0) = Z := by rw [← hZ, Bool.eq_iff_iff]; simpa using hzz
                rw [hZ] at H23
                replace hZ := Lib.hid hZ
                replace hzz := Lib.hid hzz
                replace h6 := Lib.hid h6
                replace g6 := Lib.hid g6
                go_wp2_with fail
                refine H19.out.mono ?_
                rintro e w7 ⟨rfl, rfl⟩
                go_wp2_with fail
                refine H23.out.mono ?_
                rintro e w7 ⟨rfl, rfl⟩
                go_wp2_with fail
                refine H21.out.mono ?_
                rintro e w7 ⟨rfl, rfl⟩
                go_wp2_with fail
                refine (left24 _ _ _ _ _).mono ?_
                rintro e w7 ⟨rfl, rfl⟩
                go_wp2_with fail
                refine ⟨⟨j + 1, _, _, _, (L.drop 1), _, hlt, rfl, rfl, rfl, ?_, ?_, ?_, ?_⟩, ?_⟩
                · exact Lib.hid (RestAt.grown (RestAt.below (by first | exact hN.out (by assumption) | exact hN2.out) (by first | exact Below.refl _ _ | exact below_dn _ _ _)) g6.out)
                · exact Lib.hid (by first | exact Nat.le_trans (Nat.sub_le _ _) hm5.out | exact Nat.le_trans (Nat.sub_le _ _) (Nat.le_trans (Nat.sub_le _ _) hm5.out) | exact hm5.out | exact Nat.zero_le _)
                · exact by simpa [cur] using h6
                · exact Lib.hid (hbl.out.trans ((below_dn _ _ _).trans ((grown_below g6.out hIr).mono hIw)))
                · simp [intOf]
                  first | exact meas hlt | omega
        by_cases e1 : tk = 1
        · subst e1
          by_cases hs : m < 2
          · have hs' : (m : Int) < 2 := by omega
            as_aux_lemma =>
              have C22 : Hid (∀ w', Below wr.heap.size wr w' → Calls Try.prog 22 #[.pointer (some ⟨I, 0, none⟩), .agg #[.int .u8 1, .int .i64 tv, .int .i64 tl, .bool tf, .slice ta tn tc], .int .u64 0, .slice none 0 0, .bool true] w' fun e w'' => e = .returned (.bool true) ∧ rdLeft w' I [] true w'') := Lib.hid (fun w' hq =>
                read_r (t := ⟨1, tv, tl, tf, ta, tn, tc, tF⟩) (hin.out.keep hq) tk0 tk1 hcl (by omega) (D := []) ⟨by simp, fun hp => absurd hp (by simp)⟩ rfl (fun p e => by cases e) (rd_short (k := 1) (v := tv) (fun h => absurd h (by decide)) (fun _ => by have := hrl.out; omega) (fun h => absurd h (by decide)) (fun h => absurd h (by decide)) (fun h => absurd h (by decide)) (fun h => absurd h (by decide)) (fun h => (h (by decide)).elim)))
              go_wp2_with fail
              refine (C22.out _ (by first | exact Below.refl _ _ | exact below_dn _ _ _ | exact (below_dn _ _ _).trans (below_dn _ _ _))).mono ?_
              rintro e w6 ⟨rfl, h6, g6⟩
              have H19 := Lib.hid (bad_r h6)
              have H23 := Lib.hid (done_r h6)
              have H21 := Lib.hid (left_r h6)
              replace h6 := Lib.hid h6
              replace g6 := Lib.hid g6
              go_wp2_with fail
              refine H19.out.mono ?_
              rintro e w7 ⟨rfl, rfl⟩
              go_wp2_with fail
              refine H23.out.mono ?_
              rintro e w7 ⟨rfl, rfl⟩
              go_wp2_with fail
              refine H21.out.mono ?_
              rintro e w7 ⟨rfl, rfl⟩
              go_wp2_with fail
              refine (left24 _ _ _ _ _).mono ?_
              rintro e w7 ⟨rfl, rfl⟩
              go_wp2_with fail
              refine ⟨⟨j + 1, _, _, _, L, _, hlt, rfl, rfl, rfl, ?_, ?_, ?_, ?_⟩, ?_⟩
              · exact Lib.hid (hst.out.grown g6.out)
              · exact hm5
              · exact h6
              · exact Lib.hid (hbl.out.trans ((grown_below g6.out hIr).mono hIw))
              · simp [intOf]
                first | exact meas hlt | omega
          · have hs' : ¬ (m : Int) < 2 := by omega
            have hs2 : (2 : Int) ≤ m := by omega
            have hs3 : (2 : Int) ≤ cR := by have := hrr.out; omega
            have hSm : 2 ≤ m := by omega
            have hSL : 2 ≤ L.length := by have := hrl.out; omega
            have hbd := leL_bounds (okB_take hst.out.ok 2)
            rw [show (L.take 2).length = 2 from by simp; omega, p2] at hbd
            obtain ⟨bR, oR, rfl⟩ := hst.out.nonempty (by omega)
            have C18 : Hid (∀ (c' : Nat) (w' : World), Below wr.heap.size wr w' → Calls Try.prog 18 #[.slice (some ⟨bR, oR, none⟩) 2 c'] w' fun e w'' => e = .returned (.int .u64 (leL (L.take 2))) ∧ w'' = w') := Lib.hid (fun c' w' hq => by
              have hx := (hst.out.below hq).take (k := 2) (by omega)
              have hy := refNumber (c := c') hx (by omega) (fun j hj => ok_gtD (okB_take hst.out.ok 2) j)
              have hz := lof_gtD (L.take 2)
              rw [show (L.take 2).length = 2 from by simp; omega] at hz
              rw [hz] at hy
              exact hy)
            have hN : Hid (cR = 2 → RestAt wr I (some ⟨bR, oR, none⟩) (m - 2) 0 (L.drop 2)) := Lib.hid (fun h => hst.out.dropA (by have := hrr.out; omega) (by omega) (fun e => by cases e) (fun p' e => ⟨p', e, rfl⟩))
            have hN2 : Hid (RestAt wr I (some ⟨bR, oR + 2, none⟩) (m - 2) (cR - 2) (L.drop 2)) := Lib.hid (hst.out.dropB hSm)
            have hLd : Hid ((L.drop 2).length = m - 2) := Lib.hid (by have := hrl.out; simp; omega)
            as_aux_lemma =>
              have C22 : Hid (∀ (c' : Nat) (w' : World), Below wr.heap.size wr w' → Calls Try.prog 22 #[.pointer (some ⟨I, 0, none⟩), .agg #[.int .u8 1, .int .i64 tv, .int .i64 tl, .bool tf, .slice ta tn tc], .int .u64 (leL (L.take 2)), .slice (some ⟨bR, oR, none⟩) 2 c', .bool false] w' fun e w'' => e = .returned (.bool true) ∧ rdLeft w' I (L.drop 2) false w'') := Lib.hid (fun c' w' hq =>
                read_r (t := ⟨1, tv, tl, tf, ta, tn, tc, tF⟩) (hin.out.keep hq) tk0 tk1 hcl (by omega) ((hst.out.below hq).take hSm) (hst.out.takeLen hSm) hst.out.far (rd_num (k := 1) (S := 2) (by omega) hSL))
              generalize hVV : leL (L.take 2) = V at *
              replace hVV := Lib.hid hVV
              by_cases hcS : cR = 2
              all_goals
                go_wp2_with fail
                refine (C18.out _ _ (by first | exact Below.refl _ _ | exact below_dn _ _ _)).mono ?_
                rintro e w4 ⟨rfl, rfl⟩
                go_wp2_with fail
                go_quiet (fail)
                go_wp2_with fail
                refine (C22.out _ _ (by first | exact Below.refl _ _ | exact below_dn _ _ _ | exact (below_dn _ _ _).trans (below_dn _ _ _))).mono ?_
                rintro e w6 ⟨rfl, h6, g6⟩
                have H19 := Lib.hid (bad_r h6)
                have H23 := Lib.hid (done_r h6)
                have H21 := Lib.hid (left_r h6)
                have hzz : ((m - 2 : Nat) : Int) = 0 ↔ L.drop 2 = [] := by
                  have := hLd.out
                  rw [← List.length_eq_zero_iff, this]
                  exact ncz _
                rw [hLd.out] at H21
                obtain ⟨Z, hZ⟩ : ∃ Z, decide (L.drop 2 = []) = Z := ⟨_, rfl⟩
                have hZ2 : (((m - 2 : Nat) : Int) == 0) = Z := by rw [← hZ, Bool.eq_iff_iff]; simpa using hzz
                rw [hZ] at H23
                replace hZ := Lib.hid hZ
                replace hzz := Lib.hid hzz
                replace h6 := Lib.hid h6
                replace g6 := Lib.hid g6
                go_wp2_with fail
                refine H19.out.mono ?_
                rintro e w7 ⟨rfl, rfl⟩
                go_wp2_with fail
                refine H23.out.mono ?_
                rintro e w7 ⟨rfl, rfl⟩
                go_wp2_with fail
                refine H21.out.mono ?_
                rintro e w7 ⟨rfl, rfl⟩
                go_wp2_with fail
                refine (left24 _ _ _ _ _).mono ?_
                rintro e w7 ⟨rfl, rfl⟩
                go_wp2_with fail
                refine ⟨⟨j + 1, _, _, _, (L.drop 2), _, hlt, rfl, rfl, rfl, ?_, ?_, ?_, ?_⟩, ?_⟩
                · exact Lib.hid (RestAt.grown (RestAt.below (by first | exact hN.out (by assumption) | exact hN2.out) (by first | exact Below.refl _ _ | exact below_dn _ _ _)) g6.out)
                · exact Lib.hid (by first | exact Nat.le_trans (Nat.sub_le _ _) hm5.out | exact Nat.le_trans (Nat.sub_le _ _) (Nat.le_trans (Nat.sub_le _ _) hm5.out) | exact hm5.out | exact Nat.zero_le _)
                · exact by simpa [cur] using h6
                · exact Lib.hid (hbl.out.trans ((below_dn _ _ _).trans ((grown_below g6.out hIr).mono hIw)))
                · simp [intOf]
                  first | exact meas hlt | omega
        by_cases e2 : tk = 2
        · subst e2
          by_cases hs : m < 4
          · have hs' : (m : Int) < 4 := by omega
            as_aux_lemma =>
              have C22 : Hid (∀ w', Below wr.heap.size wr w' → Calls Try.prog 22 #[.pointer (some ⟨I, 0, none⟩), .agg #[.int .u8 2, .int .i64 tv, .int .i64 tl, .bool tf, .slice ta tn tc], .int .u64 0, .slice none 0 0, .bool true] w' fun e w'' => e = .returned (.bool true) ∧ rdLeft w' I [] true w'') := Lib.hid (fun w' hq =>
                read_r (t := ⟨2, tv, tl, tf, ta, tn, tc, tF⟩) (hin.out.keep hq) tk0 tk1 hcl (by omega) (D := []) ⟨by simp, fun hp => absurd hp (by simp)⟩ rfl (fun p e => by cases e) (rd_short (k := 2) (v := tv) (fun h => absurd h (by decide)) (fun h => absurd h (by decide)) (fun _ => by have := hrl.out; omega) (fun h => absurd h (by decide)) (fun h => absurd h (by decide)) (fun h => absurd h (by decide)) (fun h => (h (by decide)).elim)))
              go_wp2_with fail
              refine (C22.out _ (by first | exact Below.refl _ _ | exact below_dn _ _ _ | exact (below_dn _ _ _).trans (below_dn _ _ _))).mono ?_
              rintro e w6 ⟨rfl, h6, g6⟩
              have H19 := Lib.hid (bad_r h6)
              have H23 := Lib.hid (done_r h6)
              have H21 := Lib.hid (left_r h6)
              replace h6 := Lib.hid h6
              replace g6 := Lib.hid g6
              go_wp2_with fail
              refine H19.out.mono ?_
              rintro e w7 ⟨rfl, rfl⟩
              go_wp2_with fail
              refine H23.out.mono ?_
              rintro e w7 ⟨rfl, rfl⟩
              go_wp2_with fail
              refine H21.out.mono ?_
              rintro e w7 ⟨rfl, rfl⟩
              go_wp2_with fail
              refine (left24 _ _ _ _ _).mono ?_
              rintro e w7 ⟨rfl, rfl⟩
              go_wp2_with fail
              refine ⟨⟨j + 1, _, _, _, L, _, hlt, rfl, rfl, rfl, ?_, ?_, ?_, ?_⟩, ?_⟩
              · exact Lib.hid (hst.out.grown g6.out)
              · exact hm5
              · exact h6
              · exact Lib.hid (hbl.out.trans ((grown_below g6.out hIr).mono hIw))
              · simp [intOf]
                first | exact meas hlt | omega
          · have hs' : ¬ (m : Int) < 4 := by omega
            have hs2 : (4 : Int) ≤ m := by omega
            have hs3 : (4 : Int) ≤ cR := by have := hrr.out; omega
            have hSm : 4 ≤ m := by omega
            have hSL : 4 ≤ L.length := by have := hrl.out; omega
            have hbd := leL_bounds (okB_take hst.out.ok 4)
            rw [show (L.take 4).length = 4 from by simp; omega, p4] at hbd
            obtain ⟨bR, oR, rfl⟩ := hst.out.nonempty (by omega)
            have C18 : Hid (∀ (c' : Nat) (w' : World), Below wr.heap.size wr w' → Calls Try.prog 18 #[.slice (some ⟨bR, oR, none⟩) 4 c'] w' fun e w'' => e = .returned (.int .u64 (leL (L.take 4))) ∧ w'' = w') := Lib.hid (fun c' w' hq => by
              have hx := (hst.out.below hq).take (k := 4) (by omega)
              have hy := refNumber (c := c') hx (by omega) (fun j hj => ok_gtD (okB_take hst.out.ok 4) j)
              have hz := lof_gtD (L.take 4)
              rw [show (L.take 4).length = 4 from by simp; omega] at hz
              rw [hz] at hy
              exact hy)
            have hN : Hid (cR = 4 → RestAt wr I (some ⟨bR, oR, none⟩) (m - 4) 0 (L.drop 4)) := Lib.hid (fun h => hst.out.dropA (by have := hrr.out; omega) (by omega) (fun e => by cases e) (fun p' e => ⟨p', e, rfl⟩))
            have hN2 : Hid (RestAt wr I (some ⟨bR, oR + 4, none⟩) (m - 4) (cR - 4) (L.drop 4)) := Lib.hid (hst.out.dropB hSm)
            have hLd : Hid ((L.drop 4).length = m - 4) := Lib.hid (by have := hrl.out; simp; omega)
            as_aux_lemma =>
              have C22 : Hid (∀ (c' : Nat) (w' : World), Below wr.heap.size wr w' → Calls Try.prog 22 #[.pointer (some ⟨I, 0, none⟩), .agg #[.int .u8 2, .int .i64 tv, .int .i64 tl, .bool tf, .slice ta tn tc], .int .u64 (leL (L.take 4)), .slice (some ⟨bR, oR, none⟩) 4 c', .bool false] w' fun e w'' => e = .returned (.bool true) ∧ rdLeft w' I (L.drop 4) false w'') := Lib.hid (fun c' w' hq =>
                read_r (t := ⟨2, tv, tl, tf, ta, tn, tc, tF⟩) (hin.out.keep hq) tk0 tk1 hcl (by omega) ((hst.out.below hq).take hSm) (hst.out.takeLen hSm) hst.out.far (rd_num (k := 2) (S := 4) (by omega) hSL))
              generalize hVV : leL (L.take 4) = V at *
              replace hVV := Lib.hid hVV
              by_cases hcS : cR = 4
              all_goals
                go_wp2_with fail
                refine (C18.out _ _ (by first | exact Below.refl _ _ | exact below_dn _ _ _)).mono ?_
                rintro e w4 ⟨rfl, rfl⟩
                go_wp2_with fail
                go_quiet (fail)
                go_wp2_with fail
                refine (C22.out _ _ (by first | exact Below.refl _ _ | exact below_dn _ _ _ | exact (below_dn _ _ _).trans (below_dn _ _ _))).mono ?_
                rintro e w6 ⟨rfl, h6, g6⟩
                have H19 := Lib.hid (bad_r h6)
                have H23 := Lib.hid (done_r h6)
                have H21 := Lib.hid (left_r h6)
                have hzz : ((m - 4 : Nat) : Int) = 0 ↔ L.drop 4 = [] := by
                  have := hLd.out
                  rw [← List.length_eq_zero_iff, this]
                  exact ncz _
                rw [hLd.out] at H21
                obtain ⟨Z, hZ⟩ : ∃ Z, decide (L.drop 4 = []) = Z := ⟨_, rfl⟩
                have hZ2 : (((m - 4 : Nat) : Int) == 0) = Z := by rw [← hZ, Bool.eq_iff_iff]; simpa using hzz
                rw [hZ] at H23
                replace hZ := Lib.hid hZ
                replace hzz := Lib.hid hzz
                replace h6 := Lib.hid h6
                replace g6 := Lib.hid g6
                go_wp2_with fail
                refine H19.out.mono ?_
                rintro e w7 ⟨rfl, rfl⟩
                go_wp2_with fail
                refine H23.out.mono ?_
                rintro e w7 ⟨rfl, rfl⟩
                go_wp2_with fail
                refine H21.out.mono ?_
                rintro e w7 ⟨rfl, rfl⟩
                go_wp2_with fail
                refine (left24 _ _ _ _ _).mono ?_
                rintro e w7 ⟨rfl, rfl⟩
                go_wp2_with fail
                refine ⟨⟨j + 1, _, _, _, (L.drop 4), _, hlt, rfl, rfl, rfl, ?_, ?_, ?_, ?_⟩, ?_⟩
                · exact Lib.hid (RestAt.grown (RestAt.below (by first | exact hN.out (by assumption) | exact hN2.out) (by first | exact Below.refl _ _ | exact below_dn _ _ _)) g6.out)
                · exact Lib.hid (by first | exact Nat.le_trans (Nat.sub_le _ _) hm5.out | exact Nat.le_trans (Nat.sub_le _ _) (Nat.le_trans (Nat.sub_le _ _) hm5.out) | exact hm5.out | exact Nat.zero_le _)
                · exact by simpa [cur] using h6
                · exact Lib.hid (hbl.out.trans ((below_dn _ _ _).trans ((grown_below g6.out hIr).mono hIw)))
                · simp [intOf]
                  first | exact meas hlt | omega
        by_cases e3 : tk = 3
        · subst e3
          by_cases hs : m < 8
          · have hs' : (m : Int) < 8 := by omega
            as_aux_lemma =>
              have C22 : Hid (∀ w', Below wr.heap.size wr w' → Calls Try.prog 22 #[.pointer (some ⟨I, 0, none⟩), .agg #[.int .u8 3, .int .i64 tv, .int .i64 tl, .bool tf, .slice ta tn tc], .int .u64 0, .slice none 0 0, .bool true] w' fun e w'' => e = .returned (.bool true) ∧ rdLeft w' I [] true w'') := Lib.hid (fun w' hq =>
                read_r (t := ⟨3, tv, tl, tf, ta, tn, tc, tF⟩) (hin.out.keep hq) tk0 tk1 hcl (by omega) (D := []) ⟨by simp, fun hp => absurd hp (by simp)⟩ rfl (fun p e => by cases e) (rd_short (k := 3) (v := tv) (fun h => absurd h (by decide)) (fun h => absurd h (by decide)) (fun h => absurd h (by decide)) (fun _ => by have := hrl.out; omega) (fun h => absurd h (by decide)) (fun h => absurd h (by decide)) (fun h => (h (by decide)).elim)))
              go_wp2_with fail
              refine (C22.out _ (by first | exact Below.refl _ _ | exact below_dn _ _ _ | exact (below_dn _ _ _).trans (below_dn _ _ _))).mono ?_
              rintro e w6 ⟨rfl, h6, g6⟩
              have H19 := Lib.hid (bad_r h6)
              have H23 := Lib.hid (done_r h6)
              have H21 := Lib.hid (left_r h6)
              replace h6 := Lib.hid h6
              replace g6 := Lib.hid g6
              go_wp2_with fail
              refine H19.out.mono ?_
              rintro e w7 ⟨rfl, rfl⟩
              go_wp2_with fail
              refine H23.out.mono ?_
              rintro e w7 ⟨rfl, rfl⟩
              go_wp2_with fail
              refine H21.out.mono ?_
              rintro e w7 ⟨rfl, rfl⟩
              go_wp2_with fail
              refine (left24 _ _ _ _ _).mono ?_
              rintro e w7 ⟨rfl, rfl⟩
              go_wp2_with fail
              refine ⟨⟨j + 1, _, _, _, L, _, hlt, rfl, rfl, rfl, ?_, ?_, ?_, ?_⟩, ?_⟩
              · exact Lib.hid (hst.out.grown g6.out)
              · exact hm5
              · exact h6
              · exact Lib.hid (hbl.out.trans ((grown_below g6.out hIr).mono hIw))
              · simp [intOf]
                first | exact meas hlt | omega
          · have hs' : ¬ (m : Int) < 8 := by omega
            have hs2 : (8 : Int) ≤ m := by omega
            have hs3 : (8 : Int) ≤ cR := by have := hrr.out; omega
            have hSm : 8 ≤ m := by omega
            have hSL : 8 ≤ L.length := by have := hrl.out; omega
            have hbd := leL_bounds (okB_take hst.out.ok 8)
            rw [show (L.take 8).length = 8 from by simp; omega, p8] at hbd
            obtain ⟨bR, oR, rfl⟩ := hst.out.nonempty (by omega)
            have C18 : Hid (∀ (c' : Nat) (w' : World), Below wr.heap.size wr w' → Calls Try.prog 18 #[.slice (some ⟨bR, oR, none⟩) 8 c'] w' fun e w'' => e = .returned (.int .u64 (leL (L.take 8))) ∧ w'' = w') := Lib.hid (fun c' w' hq => by
              have hx := (hst.out.below hq).take (k := 8) (by omega)
              have hy := refNumber (c := c') hx (by omega) (fun j hj => ok_gtD (okB_take hst.out.ok 8) j)
              have hz := lof_gtD (L.take 8)
              rw [show (L.take 8).length = 8 from by simp; omega] at hz
              rw [hz] at hy
              exact hy)
            have hN : Hid (cR = 8 → RestAt wr I (some ⟨bR, oR, none⟩) (m - 8) 0 (L.drop 8)) := Lib.hid (fun h => hst.out.dropA (by have := hrr.out; omega) (by omega) (fun e => by cases e) (fun p' e => ⟨p', e, rfl⟩))
            have hN2 : Hid (RestAt wr I (some ⟨bR, oR + 8, none⟩) (m - 8) (cR - 8) (L.drop 8)) := Lib.hid (hst.out.dropB hSm)
            have hLd : Hid ((L.drop 8).length = m - 8) := Lib.hid (by have := hrl.out; simp; omega)
            as_aux_lemma =>
              have C22 : Hid (∀ (c' : Nat) (w' : World), Below wr.heap.size wr w' → Calls Try.prog 22 #[.pointer (some ⟨I, 0, none⟩), .agg #[.int .u8 3, .int .i64 tv, .int .i64 tl, .bool tf, .slice ta tn tc], .int .u64 (leL (L.take 8)), .slice (some ⟨bR, oR, none⟩) 8 c', .bool false] w' fun e w'' => e = .returned (.bool true) ∧ rdLeft w' I (L.drop 8) false w'') := Lib.hid (fun c' w' hq =>
                read_r (t := ⟨3, tv, tl, tf, ta, tn, tc, tF⟩) (hin.out.keep hq) tk0 tk1 hcl (by omega) ((hst.out.below hq).take hSm) (hst.out.takeLen hSm) hst.out.far (rd_num (k := 3) (S := 8) (by omega) hSL))
              generalize hVV : leL (L.take 8) = V at *
              replace hVV := Lib.hid hVV
              by_cases hcS : cR = 8
              all_goals
                go_wp2_with fail
                refine (C18.out _ _ (by first | exact Below.refl _ _ | exact below_dn _ _ _)).mono ?_
                rintro e w4 ⟨rfl, rfl⟩
                go_wp2_with fail
                go_quiet (fail)
                go_wp2_with fail
                refine (C22.out _ _ (by first | exact Below.refl _ _ | exact below_dn _ _ _ | exact (below_dn _ _ _).trans (below_dn _ _ _))).mono ?_
                rintro e w6 ⟨rfl, h6, g6⟩
                have H19 := Lib.hid (bad_r h6)
                have H23 := Lib.hid (done_r h6)
                have H21 := Lib.hid (left_r h6)
                have hzz : ((m - 8 : Nat) : Int) = 0 ↔ L.drop 8 = [] := by
                  have := hLd.out
                  rw [← List.length_eq_zero_iff, this]
                  exact ncz _
                rw [hLd.out] at H21
                obtain ⟨Z, hZ⟩ : ∃ Z, decide (L.drop 8 = []) = Z := ⟨_, rfl⟩
                have hZ2 : (((m - 8 : Nat) : Int) == 0) = Z := by rw [← hZ, Bool.eq_iff_iff]; simpa using hzz
                rw [hZ] at H23
                replace hZ := Lib.hid hZ
                replace hzz := Lib.hid hzz
                replace h6 := Lib.hid h6
                replace g6 := Lib.hid g6
                go_wp2_with fail
                refine H19.out.mono ?_
                rintro e w7 ⟨rfl, rfl⟩
                go_wp2_with fail
                refine H23.out.mono ?_
                rintro e w7 ⟨rfl, rfl⟩
                go_wp2_with fail
                refine H21.out.mono ?_
                rintro e w7 ⟨rfl, rfl⟩
                go_wp2_with fail
                refine (left24 _ _ _ _ _).mono ?_
                rintro e w7 ⟨rfl, rfl⟩
                go_wp2_with fail
                refine ⟨⟨j + 1, _, _, _, (L.drop 8), _, hlt, rfl, rfl, rfl, ?_, ?_, ?_, ?_⟩, ?_⟩
                · exact Lib.hid (RestAt.grown (RestAt.below (by first | exact hN.out (by assumption) | exact hN2.out) (by first | exact Below.refl _ _ | exact below_dn _ _ _)) g6.out)
                · exact Lib.hid (by first | exact Nat.le_trans (Nat.sub_le _ _) hm5.out | exact Nat.le_trans (Nat.sub_le _ _) (Nat.le_trans (Nat.sub_le _ _) hm5.out) | exact hm5.out | exact Nat.zero_le _)
                · exact by simpa [cur] using h6
                · exact Lib.hid (hbl.out.trans ((below_dn _ _ _).trans ((grown_below g6.out hIr).mono hIw)))
                · simp [intOf]
                  first | exact meas hlt | omega
        by_cases e4 : tk = 4
        · subst e4
          by_cases hs : m < 1
          · have hs' : (m : Int) < 1 := by omega
            as_aux_lemma =>
              have C22 : Hid (∀ w', Below wr.heap.size wr w' → Calls Try.prog 22 #[.pointer (some ⟨I, 0, none⟩), .agg #[.int .u8 4, .int .i64 tv, .int .i64 tl, .bool tf, .slice ta tn tc], .int .u64 0, .slice none 0 0, .bool true] w' fun e w'' => e = .returned (.bool true) ∧ rdLeft w' I [] true w'') := Lib.hid (fun w' hq =>
                read_r (t := ⟨4, tv, tl, tf, ta, tn, tc, tF⟩) (hin.out.keep hq) tk0 tk1 hcl (by omega) (D := []) ⟨by simp, fun hp => absurd hp (by simp)⟩ rfl (fun p e => by cases e) (rd_short (k := 4) (v := tv) (fun h => absurd h (by decide)) (fun h => absurd h (by decide)) (fun h => absurd h (by decide)) (fun h => absurd h (by decide)) (fun _ => by have := hrl.out; omega) (fun h => absurd h (by decide)) (fun h => (h (by decide)).elim)))
              go_wp2_with fail
              refine (C22.out _ (by first | exact Below.refl _ _ | exact below_dn _ _ _ | exact (below_dn _ _ _).trans (below_dn _ _ _))).mono ?_
              rintro e w6 ⟨rfl, h6, g6⟩
              have H19 := Lib.hid (bad_r h6)
              have H23 := Lib.hid (done_r h6)
              have H21 := Lib.hid (left_r h6)
              replace h6 := Lib.hid h6
              replace g6 := Lib.hid g6
              go_wp2_with fail
              refine H19.out.mono ?_
              rintro e w7 ⟨rfl, rfl⟩
              go_wp2_with fail
              refine H23.out.mono ?_
              rintro e w7 ⟨rfl, rfl⟩
              go_wp2_with fail
              refine H21.out.mono ?_
              rintro e w7 ⟨rfl, rfl⟩
              go_wp2_with fail
              refine (left24 _ _ _ _ _).mono ?_
              rintro e w7 ⟨rfl, rfl⟩
              go_wp2_with fail
              refine ⟨⟨j + 1, _, _, _, L, _, hlt, rfl, rfl, rfl, ?_, ?_, ?_, ?_⟩, ?_⟩
              · exact Lib.hid (hst.out.grown g6.out)
              · exact hm5
              · exact h6
              · exact Lib.hid (hbl.out.trans ((grown_below g6.out hIr).mono hIw))
              · simp [intOf]
                first | exact meas hlt | omega
          · have hs' : ¬ (m : Int) < 1 := by omega
            have hs2 : (1 : Int) ≤ m := by omega
            have hs3 : (1 : Int) ≤ cR := by have := hrr.out; omega
            have hSm : 1 ≤ m := by omega
            have hSL : 1 ≤ L.length := by have := hrl.out; omega
            have hbd := leL_bounds (okB_take hst.out.ok 1)
            rw [show (L.take 1).length = 1 from by simp; omega, p1] at hbd
            obtain ⟨bR, oR, rfl⟩ := hst.out.nonempty (by omega)
            have C18 : Hid (∀ (c' : Nat) (w' : World), Below wr.heap.size wr w' → Calls Try.prog 18 #[.slice (some ⟨bR, oR, none⟩) 1 c'] w' fun e w'' => e = .returned (.int .u64 (leL (L.take 1))) ∧ w'' = w') := Lib.hid (fun c' w' hq => by
              have hx := (hst.out.below hq).take (k := 1) (by omega)
              have hy := refNumber (c := c') hx (by omega) (fun j hj => ok_gtD (okB_take hst.out.ok 1) j)
              have hz := lof_gtD (L.take 1)
              rw [show (L.take 1).length = 1 from by simp; omega] at hz
              rw [hz] at hy
              exact hy)
            have hN : Hid (cR = 1 → RestAt wr I (some ⟨bR, oR, none⟩) (m - 1) 0 (L.drop 1)) := Lib.hid (fun h => hst.out.dropA (by have := hrr.out; omega) (by omega) (fun e => by cases e) (fun p' e => ⟨p', e, rfl⟩))
            have hN2 : Hid (RestAt wr I (some ⟨bR, oR + 1, none⟩) (m - 1) (cR - 1) (L.drop 1)) := Lib.hid (hst.out.dropB hSm)
            have hLd : Hid ((L.drop 1).length = m - 1) := Lib.hid (by have := hrl.out; simp; omega)
            by_cases hV1 : 1 < leL (L.take 1)
            · as_aux_lemma =>
                have C22 : Hid (∀ (c' : Nat) (w' : World), Below wr.heap.size wr w' → Calls Try.prog 22 #[.pointer (some ⟨I, 0, none⟩), .agg #[.int .u8 4, .int .i64 tv, .int .i64 tl, .bool tf, .slice ta tn tc], .int .u64 (leL (L.take 1)), .slice (some ⟨bR, oR, none⟩) 1 c', .bool true] w' fun e w'' => e = .returned (.bool true) ∧ rdLeft w' I [] true w'') := Lib.hid (fun c' w' hq =>
                  read_r (t := ⟨4, tv, tl, tf, ta, tn, tc, tF⟩) (hin.out.keep hq) tk0 tk1 hcl (by omega) ((hst.out.below hq).take hSm) (hst.out.takeLen hSm) hst.out.far (rd_flag_over hSL hV1))
                generalize hVV : leL (L.take 1) = V at *
                replace hVV := Lib.hid hVV
                by_cases hcS : cR = 1
                all_goals
                  go_wp2_with fail
                  refine (C18.out _ _ (by first | exact Below.refl _ _ | exact below_dn _ _ _)).mono ?_
                  rintro e w4 ⟨rfl, rfl⟩
                  go_wp2_with fail
                  go_quiet (fail)
                  go_wp2_with fail
                  refine (C22.out _ _ (by first | exact Below.refl _ _ | exact below_dn _ _ _ | exact (below_dn _ _ _).trans (below_dn _ _ _))).mono ?_
                  rintro e w6 ⟨rfl, h6, g6⟩
                  have H19 := Lib.hid (bad_r h6)
                  have H23 := Lib.hid (done_r h6)
                  have H21 := Lib.hid (left_r h6)
                  replace h6 := Lib.hid h6
                  replace g6 := Lib.hid g6
                  go_wp2_with fail
                  refine H19.out.mono ?_
                  rintro e w7 ⟨rfl, rfl⟩
                  go_wp2_with fail
                  refine H23.out.mono ?_
                  rintro e w7 ⟨rfl, rfl⟩
                  go_wp2_with fail
                  refine H21.out.mono ?_
                  rintro e w7 ⟨rfl, rfl⟩
                  go_wp2_with fail
                  refine (left24 _ _ _ _ _).mono ?_
                  rintro e w7 ⟨rfl, rfl⟩
                  go_wp2_with fail
                  refine ⟨⟨j + 1, _, _, _, (L.drop 1), _, hlt, rfl, rfl, rfl, ?_, ?_, ?_, ?_⟩, ?_⟩
                  · exact Lib.hid (RestAt.grown (RestAt.below (by first | exact hN.out (by assumption) | exact hN2.out) (by first | exact Below.refl _ _ | exact below_dn _ _ _)) g6.out)
                  · exact Lib.hid (by first | exact Nat.le_trans (Nat.sub_le _ _) hm5.out | exact Nat.le_trans (Nat.sub_le _ _) (Nat.le_trans (Nat.sub_le _ _) hm5.out) | exact hm5.out | exact Nat.zero_le _)
                  · exact by simpa [cur] using h6
                  · exact Lib.hid (hbl.out.trans ((below_dn _ _ _).trans ((grown_below g6.out hIr).mono hIw)))
                  · simp [intOf]
                    first | exact meas hlt | omega
            · as_aux_lemma =>
                have C22 : Hid (∀ (c' : Nat) (w' : World), Below wr.heap.size wr w' → Calls Try.prog 22 #[.pointer (some ⟨I, 0, none⟩), .agg #[.int .u8 4, .int .i64 tv, .int .i64 tl, .bool tf, .slice ta tn tc], .int .u64 (leL (L.take 1)), .slice (some ⟨bR, oR, none⟩) 1 c', .bool false] w' fun e w'' => e = .returned (.bool true) ∧ rdLeft w' I (L.drop 1) false w'') := Lib.hid (fun c' w' hq =>
                  read_r (t := ⟨4, tv, tl, tf, ta, tn, tc, tF⟩) (hin.out.keep hq) tk0 tk1 hcl (by omega) ((hst.out.below hq).take hSm) (hst.out.takeLen hSm) hst.out.far (rd_flag_ok hSL hV1))
                generalize hVV : leL (L.take 1) = V at *
                replace hVV := Lib.hid hVV
                by_cases hcS : cR = 1
                all_goals
                  go_wp2_with fail
                  refine (C18.out _ _ (by first | exact Below.refl _ _ | exact below_dn _ _ _)).mono ?_
                  rintro e w4 ⟨rfl, rfl⟩
                  go_wp2_with fail
                  go_quiet (fail)
                  go_wp2_with fail
                  refine (C22.out _ _ (by first | exact Below.refl _ _ | exact below_dn _ _ _ | exact (below_dn _ _ _).trans (below_dn _ _ _))).mono ?_
                  rintro e w6 ⟨rfl, h6, g6⟩
                  have H19 := Lib.hid (bad_r h6)
                  have H23 := Lib.hid (done_r h6)
                  have H21 := Lib.hid (left_r h6)
                  have hzz : ((m - 1 : Nat) : Int) = 0 ↔ L.drop 1 = [] := by
                    have := hLd.out
                    rw [← List.length_eq_zero_iff, this]
                    exact ncz _
                  rw [hLd.out] at H21
                  obtain ⟨Z, hZ⟩ : ∃ Z, decide (L.drop 1 = []) = Z := ⟨_, rfl⟩
                  have hZ2 : (((m - 1 : Nat) : Int) == 0) = Z := by rw [← hZ, Bool.eq_iff_iff]; simpa using hzz
                  rw [hZ] at H23
                  replace hZ := Lib.hid hZ
                  replace hzz := Lib.hid hzz
                  replace h6 := Lib.hid h6
                  replace g6 := Lib.hid g6
                  go_wp2_with fail
                  refine H19.out.mono ?_
                  rintro e w7 ⟨rfl, rfl⟩
                  go_wp2_with fail
                  refine H23.out.mono ?_
                  rintro e w7 ⟨rfl, rfl⟩
                  go_wp2_with fail
                  refine H21.out.mono ?_
                  rintro e w7 ⟨rfl, rfl⟩
                  go_wp2_with fail
                  refine (left24 _ _ _ _ _).mono ?_
                  rintro e w7 ⟨rfl, rfl⟩
                  go_wp2_with fail
                  refine ⟨⟨j + 1, _, _, _, (L.drop 1), _, hlt, rfl, rfl, rfl, ?_, ?_, ?_, ?_⟩, ?_⟩
                  · exact Lib.hid (RestAt.grown (RestAt.below (by first | exact hN.out (by assumption) | exact hN2.out) (by first | exact Below.refl _ _ | exact below_dn _ _ _)) g6.out)
                  · exact Lib.hid (by first | exact Nat.le_trans (Nat.sub_le _ _) hm5.out | exact Nat.le_trans (Nat.sub_le _ _) (Nat.le_trans (Nat.sub_le _ _) hm5.out) | exact hm5.out | exact Nat.zero_le _)
                  · exact by simpa [cur] using h6
                  · exact Lib.hid (hbl.out.trans ((below_dn _ _ _).trans ((grown_below g6.out hIr).mono hIw)))
                  · simp [intOf]
                    first | exact meas hlt | omega
        by_cases e5 : tk = 5
        · subst e5
          by_cases hs : m < 2
          · have hs' : (m : Int) < 2 := by omega
            as_aux_lemma =>
              have C22 : Hid (∀ w', Below wr.heap.size wr w' → Calls Try.prog 22 #[.pointer (some ⟨I, 0, none⟩), .agg #[.int .u8 5, .int .i64 tv, .int .i64 tl, .bool tf, .slice ta tn tc], .int .u64 0, .slice none 0 0, .bool true] w' fun e w'' => e = .returned (.bool true) ∧ rdLeft w' I [] true w'') := Lib.hid (fun w' hq =>
                read_r (t := ⟨5, tv, tl, tf, ta, tn, tc, tF⟩) (hin.out.keep hq) tk0 tk1 hcl (by omega) (D := []) ⟨by simp, fun hp => absurd hp (by simp)⟩ rfl (fun p e => by cases e) (rd_short (k := 5) (v := tv) (fun h => absurd h (by decide)) (fun h => absurd h (by decide)) (fun h => absurd h (by decide)) (fun h => absurd h (by decide)) (fun h => absurd h (by decide)) (fun _ => by have := hrl.out; omega) (fun h => (h (by decide)).elim)))
              go_wp2_with fail
              refine (C22.out _ (by first | exact Below.refl _ _ | exact below_dn _ _ _ | exact (below_dn _ _ _).trans (below_dn _ _ _))).mono ?_
              rintro e w6 ⟨rfl, h6, g6⟩
              have H19 := Lib.hid (bad_r h6)
              have H23 := Lib.hid (done_r h6)
              have H21 := Lib.hid (left_r h6)
              replace h6 := Lib.hid h6
              replace g6 := Lib.hid g6
              go_wp2_with fail
              refine H19.out.mono ?_
              rintro e w7 ⟨rfl, rfl⟩
              go_wp2_with fail
              refine H23.out.mono ?_
              rintro e w7 ⟨rfl, rfl⟩
              go_wp2_with fail
              refine H21.out.mono ?_
              rintro e w7 ⟨rfl, rfl⟩
              go_wp2_with fail
              refine (left24 _ _ _ _ _).mono ?_
              rintro e w7 ⟨rfl, rfl⟩
              go_wp2_with fail
              refine ⟨⟨j + 1, _, _, _, L, _, hlt, rfl, rfl, rfl, ?_, ?_, ?_, ?_⟩, ?_⟩
              · exact Lib.hid (hst.out.grown g6.out)
              · exact hm5
              · exact h6
              · exact Lib.hid (hbl.out.trans ((grown_below g6.out hIr).mono hIw))
              · simp [intOf]
                first | exact meas hlt | omega
          · have hs' : ¬ (m : Int) < 2 := by omega
            have hs2 : (2 : Int) ≤ m := by omega
            have hs3 : (2 : Int) ≤ cR := by have := hrr.out; omega
            have hSm : 2 ≤ m := by omega
            have hSL : 2 ≤ L.length := by have := hrl.out; omega
            have hbd := leL_bounds (okB_take hst.out.ok 2)
            rw [show (L.take 2).length = 2 from by simp; omega, p2] at hbd
            obtain ⟨bR, oR, rfl⟩ := hst.out.nonempty (by omega)
            have C18 : Hid (∀ (c' : Nat) (w' : World), Below wr.heap.size wr w' → Calls Try.prog 18 #[.slice (some ⟨bR, oR, none⟩) 2 c'] w' fun e w'' => e = .returned (.int .u64 (leL (L.take 2))) ∧ w'' = w') := Lib.hid (fun c' w' hq => by
              have hx := (hst.out.below hq).take (k := 2) (by omega)
              have hy := refNumber (c := c') hx (by omega) (fun j hj => ok_gtD (okB_take hst.out.ok 2) j)
              have hz := lof_gtD (L.take 2)
              rw [show (L.take 2).length = 2 from by simp; omega] at hz
              rw [hz] at hy
              exact hy)
            have hN : Hid (cR = 2 → RestAt wr I (some ⟨bR, oR, none⟩) (m - 2) 0 (L.drop 2)) := Lib.hid (fun h => hst.out.dropA (by have := hrr.out; omega) (by omega) (fun e => by cases e) (fun p' e => ⟨p', e, rfl⟩))
            have hN2 : Hid (RestAt wr I (some ⟨bR, oR + 2, none⟩) (m - 2) (cR - 2) (L.drop 2)) := Lib.hid (hst.out.dropB hSm)
            have hLd : Hid ((L.drop 2).length = m - 2) := Lib.hid (by have := hrl.out; simp; omega)
            by_cases hV1 : (m : Int) - 2 < leL (L.take 2)
            · as_aux_lemma =>
                have C22 : Hid (∀ w', Below wr.heap.size wr w' → Calls Try.prog 22 #[.pointer (some ⟨I, 0, none⟩), .agg #[.int .u8 5, .int .i64 tv, .int .i64 tl, .bool tf, .slice ta tn tc], .int .u64 (leL (L.take 2)), .slice none 0 0, .bool true] w' fun e w'' => e = .returned (.bool true) ∧ rdLeft w' I [] true w'') := Lib.hid (fun w' hq =>
                  read_r (t := ⟨5, tv, tl, tf, ta, tn, tc, tF⟩) (hin.out.keep hq) tk0 tk1 hcl (by omega) (D := []) ⟨by simp, fun hp => absurd hp (by simp)⟩ rfl (fun p e => by cases e) (rd_bytes_over hSL (by have := hrl.out; omega)))
                have hV2 : ((m - 2 : Nat) : Int) < leL (L.take 2) := by omega
                have hw : wrap64 (leL (L.take 2)) = leL (L.take 2) := by unfold wrap64; omega
                generalize hVV : leL (L.take 2) = V at *
                replace hVV := Lib.hid hVV
                by_cases hcS : cR = 2
                all_goals
                  go_wp2_with fail
                  refine (C18.out _ _ (by first | exact Below.refl _ _ | exact below_dn _ _ _)).mono ?_
                  rintro e w4 ⟨rfl, rfl⟩
                  go_wp2_with fail
                  go_quiet (fail)
                  go_wp2_with fail
                  refine (C22.out _ (by first | exact Below.refl _ _ | exact below_dn _ _ _ | exact (below_dn _ _ _).trans (below_dn _ _ _))).mono ?_
                  rintro e w6 ⟨rfl, h6, g6⟩
                  have H19 := Lib.hid (bad_r h6)
                  have H23 := Lib.hid (done_r h6)
                  have H21 := Lib.hid (left_r h6)
                  replace h6 := Lib.hid h6
                  replace g6 := Lib.hid g6
                  go_wp2_with fail
                  refine H19.out.mono ?_
                  rintro e w7 ⟨rfl, rfl⟩
                  go_wp2_with fail
                  refine H23.out.mono ?_
                  rintro e w7 ⟨rfl, rfl⟩
                  go_wp2_with fail
                  refine H21.out.mono ?_
                  rintro e w7 ⟨rfl, rfl⟩
                  go_wp2_with fail
                  refine (left24 _ _ _ _ _).mono ?_
                  rintro e w7 ⟨rfl, rfl⟩
                  go_wp2_with fail
                  refine ⟨⟨j + 1, _, _, _, (L.drop 2), _, hlt, rfl, rfl, rfl, ?_, ?_, ?_, ?_⟩, ?_⟩
                  · exact Lib.hid (RestAt.grown (RestAt.below (by first | exact hN.out (by assumption) | exact hN2.out) (by first | exact Below.refl _ _ | exact below_dn _ _ _)) g6.out)
                  · exact Lib.hid (by first | exact Nat.le_trans (Nat.sub_le _ _) hm5.out | exact Nat.le_trans (Nat.sub_le _ _) (Nat.le_trans (Nat.sub_le _ _) hm5.out) | exact hm5.out | exact Nat.zero_le _)
                  · exact by simpa [cur] using h6
                  · exact Lib.hid (hbl.out.trans ((below_dn _ _ _).trans ((grown_below g6.out hIr).mono hIw)))
                  · simp [intOf]
                    first | exact meas hlt | omega
            · obtain ⟨m2, rfl⟩ : ∃ m2, m = m2 + 2 := ⟨m - 2, (Nat.sub_add_cancel hSm).symm⟩
              obtain ⟨cQ, rfl⟩ : ∃ cQ, cR = cQ + 2 := ⟨cR - 2, (Nat.sub_add_cancel (Nat.le_trans hSm hrr.out)).symm⟩
              have hmc : m2 ≤ cQ := Nat.le_of_add_le_add_right hrr.out
              obtain ⟨V, hVV⟩ : ∃ V, leL (L.take 2) = V := ⟨_, rfl⟩
              rw [hVV] at C18 hbd hV1
              obtain ⟨vn, hvt⟩ : ∃ vn, V.toNat = vn := ⟨_, rfl⟩
              obtain ⟨hvn, hvle, hVm, hVc⟩ := vnle hV1 hbd.1 hvt hmc
              replace hvn := Lib.hid hvn
              have hVd : Hid (decide ((m2 : Int) < V) = false) := Lib.hid (by simpa using hVm)
              replace hVm := Lib.hid hVm
              have hL5 : Hid (L.length = m2 + 2) := Lib.hid hrl.out.symm
              have hNA : Hid (cQ = 0 → RestAt wr I (some ⟨bR, oR, none⟩) 0 0 (L.drop 2)) := Lib.hid (fun h => by have := hN.out (by omega); rwa [show m2 + 2 - 2 = 0 from by omega] at this)
              have hNB : Hid (RestAt wr I (some ⟨bR, oR + 2, none⟩) m2 cQ (L.drop 2)) := Lib.hid hN2.out
              have hM2 : Hid (cQ = vn → RestAt wr I (some ⟨bR, oR + 2, none⟩) (m2 - vn) 0 ((L.drop 2).drop vn)) := Lib.hid (fun h => hNB.out.dropA (by omega) (Nat.zero_le _) (fun e => by cases e) (fun p' e => ⟨p', e, rfl⟩))
              have hM3 : Hid (RestAt wr I (some ⟨bR, oR + 2 + vn, none⟩) (m2 - vn) (cQ - vn) ((L.drop 2).drop vn)) := Lib.hid (hNB.out.dropB hvle)
              have C22 : Hid (∀ (aX : Option Addr) (c' : Nat) (w' : World), IntsAt w' .u8 aX vn (gtD ((L.drop 2).take vn)) → (∀ p, aX = some p → p.block ≠ I) → Below wr.heap.size wr w' → Calls Try.prog 22 #[.pointer (some ⟨I, 0, none⟩), .agg #[.int .u8 5, .int .i64 tv, .int .i64 tl, .bool tf, .slice ta tn tc], .int .u64 V, .slice aX vn c', .bool false] w' fun e w'' => e = .returned (.bool true) ∧ rdLeft w' I ((L.drop 2).drop vn) false w'') := Lib.hid (fun aX c' w' hx hf hq => by
                have hr := rd_bytes_ok (v := tv) hSL (hVV.trans hvn.out.symm) (by have := hL5.out; omega)
                rw [hVV] at hr
                exact read_r (t := ⟨5, tv, tl, tf, ta, tn, tc, tF⟩) (cD := c') (hin.out.keep hq) tk0 tk1 hcl (by omega) hx (by have := hL5.out; simp; omega) hf hr)
              have hD1 : Hid (∀ w', Below wr.heap.size wr w' → IntsAt w' .u8 (some ⟨bR, oR + 2, none⟩) vn (gtD ((L.drop 2).take vn))) := Lib.hid (fun w' hq => (hNB.out.below hq).take hvle)
              have hfar : Hid (bR ≠ I) := Lib.hid (hst.out.far ⟨bR, oR, none⟩ rfl)
              have hLd2 : Hid (((L.drop 2).drop vn).length = m2 - vn) := Lib.hid (by have := hL5.out; simp; omega)
              have hw : wrap64 V = V := by unfold wrap64; omega
              have hZ0 : Hid (((m2 - vn : Nat) : Int) = 0 ↔ (L.drop 2).drop vn = []) := Lib.hid (by rw [← List.length_eq_zero_iff, hLd2.out]; exact ncz _)
              obtain ⟨LD, hL2⟩ : ∃ LD, (L.drop 2).drop vn = LD := ⟨_, rfl⟩
              rw [hL2] at C22 hM2 hM3 hLd2 hZ0
              replace hL2 := Lib.hid hL2
              replace hV1 := Lib.hid hV1
              replace hVV := Lib.hid hVV
              have hnc : vn ≤ cQ := Nat.le_trans hvle hmc
              have hmc' := hmc
              clear hs hs' hs2 hs3 hSm hSL hmc
              by_cases hcS : cQ = 0
              · subst hcS
                obtain rfl : m2 = 0 := Nat.le_zero.1 hmc'
                obtain rfl : vn = 0 := Nat.le_zero.1 hvle
                obtain rfl : LD = [] := List.eq_nil_of_length_eq_zero hLd2.out
                obtain rfl : V = 0 := by have := hvn.out; omega
                as_aux_lemma =>
                  have hR1 : Hid (RestAt wr I (some ⟨bR, oR, none⟩) 0 0 []) := Lib.hid (by
                    have := (hNA.out (by first | rfl | trivial)).dropA (k := 0) (a' := some ⟨bR, oR, none⟩) (c' := 0) rfl (Nat.le_refl _) (fun e => by cases e) (fun p' e => ⟨p', e, rfl⟩)
                    have e : (L.drop 2).drop 0 = [] := by simpa using hL2.out
                    rw [e] at this
                    exact this)
                  have hD0 : Hid (∀ w', IntsAt w' .u8 (some ⟨bR, oR, none⟩) 0 (gtD ((L.drop 2).take 0))) := Lib.hid (fun w' => ⟨by simp, fun hp => absurd hp (by simp)⟩)
                  go_wp2_with fail
                  refine (C18.out _ _ (by first | exact Below.refl _ _ | exact below_dn _ _ _)).mono ?_
                  rintro e w4 ⟨rfl, rfl⟩
                  go_wp2_with fail
                  go_quiet (fail)
                  go_wp2_with fail
                  go_quiet (fail)
                  go_wp2_with fail
                  refine (C22.out _ _ _ (hD0.out _) (fun p e => by cases e; exact hfar.out) (by first | exact Below.refl _ _ | exact below_dn _ _ _ | exact (below_dn _ _ _).trans (below_dn _ _ _))).mono ?_
                  rintro e w6 ⟨rfl, h6, g6⟩
                  have H19 := Lib.hid (bad_r h6)
                  have H23 := Lib.hid (done_r h6)
                  have H21 := Lib.hid (left_r h6)
                  replace h6 := Lib.hid h6
                  replace g6 := Lib.hid g6
                  go_wp2_with fail
                  refine H19.out.mono ?_
                  rintro e w7 ⟨rfl, rfl⟩
                  go_wp2_with fail
                  refine H23.out.mono ?_
                  rintro e w7 ⟨rfl, rfl⟩
                  go_wp2_with fail
                  refine H21.out.mono ?_
                  rintro e w7 ⟨rfl, rfl⟩
                  go_wp2_with fail
                  refine (left24 _ _ _ _ _).mono ?_
                  rintro e w7 ⟨rfl, rfl⟩
                  go_wp2_with fail
                  refine ⟨⟨j + 1, _, _, _, [], _, hlt, rfl, rfl, rfl, ?_, ?_, ?_, ?_⟩, ?_⟩
                  · exact Lib.hid (RestAt.grown (RestAt.below hR1.out (by first | exact below_dn _ _ _ | exact (below_dn _ _ _).trans (below_dn _ _ _))) g6.out)
                  · exact Lib.hid (Nat.zero_le _)
                  · exact by first | exact h6 | simpa [cur] using h6
                  · exact Lib.hid (by first | exact hbl.out.trans ((below_dn _ _ _).trans ((below_dn _ _ _).trans ((grown_below g6.out hIr).mono hIw))) | exact hbl.out.trans ((below_dn _ _ _).trans ((grown_below g6.out hIr).mono hIw)))
                  · simp [intOf]
                    first | exact meas hlt | omega
              by_cases hcV : cQ = vn
              · subst hcV
                obtain rfl : m2 = cQ := Nat.le_antisymm hmc' hvle
                obtain rfl : LD = [] := List.eq_nil_of_length_eq_zero (hLd2.out.trans (Nat.sub_self _))
                as_aux_lemma =>
                  have hR1 : Hid (RestAt wr I (some ⟨bR, oR + 2, none⟩) 0 0 []) := Lib.hid (by
                    have := hM2.out rfl
                    rwa [Nat.sub_self] at this)
                  go_wp2_with fail
                  refine (C18.out _ _ (by first | exact Below.refl _ _ | exact below_dn _ _ _)).mono ?_
                  rintro e w4 ⟨rfl, rfl⟩
                  go_wp2_with fail
                  go_quiet (fail)
                  go_wp2_with fail
                  rotate_left
                  · exact absurd (show (!decide ((m2 : Int) < V)) = false by assumption) (by rw [hVd.out]; decide)
                  rw [hVd.out]
                  go_quiet (fail)
                  go_wp2_with fail
                  refine (C22.out _ _ _ (hD1.out _ (by first | exact below_dn _ _ _ | exact (below_dn _ _ _).trans (below_dn _ _ _))) (fun p e => by cases e; exact hfar.out) (by first | exact Below.refl _ _ | exact below_dn _ _ _ | exact (below_dn _ _ _).trans (below_dn _ _ _))).mono ?_
                  rintro e w6 ⟨rfl, h6, g6⟩
                  have H19 := Lib.hid (bad_r h6)
                  have H23 := Lib.hid (done_r h6)
                  have H21 := Lib.hid (left_r h6)
                  replace h6 := Lib.hid h6
                  replace g6 := Lib.hid g6
                  go_wp2_with fail
                  refine H19.out.mono ?_
                  rintro e w7 ⟨rfl, rfl⟩
                  go_wp2_with fail
                  refine H23.out.mono ?_
                  rintro e w7 ⟨rfl, rfl⟩
                  go_wp2_with fail
                  refine H21.out.mono ?_
                  rintro e w7 ⟨rfl, rfl⟩
                  go_wp2_with fail
                  refine (left24 _ _ _ _ _).mono ?_
                  rintro e w7 ⟨rfl, rfl⟩
                  go_wp2_with fail
                  refine ⟨⟨j + 1, _, _, _, [], _, hlt, rfl, rfl, rfl, ?_, ?_, ?_, ?_⟩, ?_⟩
                  · exact Lib.hid (RestAt.grown (RestAt.below hR1.out (by first | exact below_dn _ _ _ | exact (below_dn _ _ _).trans (below_dn _ _ _))) g6.out)
                  · exact Lib.hid (Nat.zero_le _)
                  · exact by first | exact h6 | simpa [cur] using h6
                  · exact Lib.hid (by first | exact hbl.out.trans ((below_dn _ _ _).trans ((below_dn _ _ _).trans ((grown_below g6.out hIr).mono hIw))) | exact hbl.out.trans ((below_dn _ _ _).trans ((grown_below g6.out hIr).mono hIw)))
                  · simp [intOf]
                    first | exact meas hlt | omega
              · as_aux_lemma =>
                  go_wp2_with fail
                  refine (C18.out _ _ (by first | exact Below.refl _ _ | exact below_dn _ _ _)).mono ?_
                  rintro e w4 ⟨rfl, rfl⟩
                  go_wp2_with fail
                  go_quiet (fail)
                  go_wp2_with fail
                  rotate_left
                  · exact absurd (show (!decide ((m2 : Int) < V)) = false by assumption) (by rw [hVd.out]; decide)
                  rw [hVd.out]
                  go_quiet (fail)
                  go_wp2_with fail
                  refine (C22.out _ _ _ (hD1.out _ (by first | exact below_dn _ _ _ | exact (below_dn _ _ _).trans (below_dn _ _ _))) (fun p e => by cases e; exact hfar.out) (by first | exact Below.refl _ _ | exact below_dn _ _ _ | exact (below_dn _ _ _).trans (below_dn _ _ _))).mono ?_
                  rintro e w6 ⟨rfl, h6, g6⟩
                  have H19 := Lib.hid (bad_r h6)
                  have H23 := Lib.hid (done_r h6)
                  have H21 := Lib.hid (left_r h6)
                  rw [hLd2.out] at H21
                  obtain ⟨Z, hZ⟩ : ∃ Z, decide (LD = []) = Z := ⟨_, rfl⟩
                  have hZ2 : (((m2 - vn : Nat) : Int) == 0) = Z := by rw [← hZ, Bool.eq_iff_iff]; simpa using hZ0.out
                  rw [hZ] at H23
                  replace hZ := Lib.hid hZ
                  replace h6 := Lib.hid h6
                  replace g6 := Lib.hid g6
                  go_wp2_with fail
                  refine H19.out.mono ?_
                  rintro e w7 ⟨rfl, rfl⟩
                  go_wp2_with fail
                  refine H23.out.mono ?_
                  rintro e w7 ⟨rfl, rfl⟩
                  go_wp2_with fail
                  refine H21.out.mono ?_
                  rintro e w7 ⟨rfl, rfl⟩
                  go_wp2_with fail
                  refine (left24 _ _ _ _ _).mono ?_
                  rintro e w7 ⟨rfl, rfl⟩
                  go_wp2_with fail
                  refine ⟨⟨j + 1, _, _, _, LD, _, hlt, rfl, rfl, rfl, ?_, ?_, ?_, ?_⟩, ?_⟩
                  · exact Lib.hid (RestAt.grown (RestAt.below (hM3.out) (by first | exact below_dn _ _ _ | exact (below_dn _ _ _).trans (below_dn _ _ _))) g6.out)
                  · exact Lib.hid (Nat.le_trans (Nat.sub_le m2 vn) (Nat.le_trans (Nat.le_add_right m2 2) hm5.out))
                  · exact by simpa [cur] using h6
                  · exact Lib.hid (by first | exact hbl.out.trans ((below_dn _ _ _).trans ((below_dn _ _ _).trans ((grown_below g6.out hIr).mono hIw))) | exact hbl.out.trans ((below_dn _ _ _).trans ((grown_below g6.out hIr).mono hIw)))
                  · simp [intOf]
                    first | exact meas hlt | omega
        have hk6 : ¬ tk < 6 := kind6 tk0 e0 e1 e2 e3 e4 e5
        have hkN := Lib.hid (kindN e0 e1 e2 e3 e4 e5)
        have q0 : (tk == 0) = false := by simpa using e0
        have q1 : (tk == 1) = false := by simpa using e1
        have q2 : (tk == 2) = false := by simpa using e2
        have q3 : (tk == 3) = false := by simpa using e3
        have q4 : (tk == 4) = false := by simpa using e4
        have q5 : (tk == 5) = false := by simpa using e5
        have hE : Hid (¬ tk = 0 ∧ ¬ tk = 1 ∧ ¬ tk = 2 ∧ ¬ tk = 3 ∧ ¬ tk = 4 ∧ ¬ tk = 5) := Lib.hid ⟨e0, e1, e2, e3, e4, e5⟩
        clear e0 e1 e2 e3 e4 e5
        by_cases hv0' : tv < 0
        · have C22 : Hid (∀ w', Below wr.heap.size wr w' → Calls Try.prog 22 #[.pointer (some ⟨I, 0, none⟩), .agg #[.int .u8 tk, .int .i64 tv, .int .i64 tl, .bool tf, .slice ta tn tc], .int .u64 0, .slice none 0 0, .bool true] w' fun e w'' => e = .returned (.bool true) ∧ rdLeft w' I [] true w'') := Lib.hid (fun w' hq =>
            read_r (t := ⟨tk, tv, tl, tf, ta, tn, tc, tF⟩) (hin.out.keep hq) tk0 tk1 hcl (by omega) (D := []) ⟨by simp, fun hp => absurd hp (by simp)⟩ rfl (fun p e => by cases e) (rd_short (k := tk) (v := tv) (fun h => absurd h hE.out.1) (fun h => absurd h hE.out.2.1) (fun h => absurd h hE.out.2.2.1) (fun h => absurd h hE.out.2.2.2.1) (fun h => absurd h hE.out.2.2.2.2.1) (fun h => absurd h hE.out.2.2.2.2.2) (fun _ => by have := hrl.out; omega)))
          as_aux_lemma =>
            go_wp2_with fail
            refine (C22.out _ (by first | exact Below.refl _ _ | exact below_dn _ _ _ | exact (below_dn _ _ _).trans (below_dn _ _ _))).mono ?_
            rintro e w6 ⟨rfl, h6, g6⟩
            have H19 := Lib.hid (bad_r h6)
            have H23 := Lib.hid (done_r h6)
            have H21 := Lib.hid (left_r h6)
            replace h6 := Lib.hid h6
            replace g6 := Lib.hid g6
            go_wp2_with fail
            refine H19.out.mono ?_
            rintro e w7 ⟨rfl, rfl⟩
            go_wp2_with fail
            refine H23.out.mono ?_
            rintro e w7 ⟨rfl, rfl⟩
            go_wp2_with fail
            refine H21.out.mono ?_
            rintro e w7 ⟨rfl, rfl⟩
            go_wp2_with fail
            refine (left24 _ _ _ _ _).mono ?_
            rintro e w7 ⟨rfl, rfl⟩
            go_wp2_with fail
            refine ⟨⟨j + 1, _, _, _, L, _, hlt, rfl, rfl, rfl, ?_, ?_, ?_, ?_⟩, ?_⟩
            · exact Lib.hid (hst.out.grown g6.out)
            · exact hm5
            · exact h6
            · exact Lib.hid (hbl.out.trans ((grown_below g6.out hIr).mono hIw))
            · simp [intOf]
              first | exact meas hlt | omega
        by_cases hvm : (m : Int) < tv
        · have C22 : Hid (∀ w', Below wr.heap.size wr w' → Calls Try.prog 22 #[.pointer (some ⟨I, 0, none⟩), .agg #[.int .u8 tk, .int .i64 tv, .int .i64 tl, .bool tf, .slice ta tn tc], .int .u64 0, .slice none 0 0, .bool true] w' fun e w'' => e = .returned (.bool true) ∧ rdLeft w' I [] true w'') := Lib.hid (fun w' hq =>
            read_r (t := ⟨tk, tv, tl, tf, ta, tn, tc, tF⟩) (hin.out.keep hq) tk0 tk1 hcl (by omega) (D := []) ⟨by simp, fun hp => absurd hp (by simp)⟩ rfl (fun p e => by cases e) (rd_short (k := tk) (v := tv) (fun h => absurd h hE.out.1) (fun h => absurd h hE.out.2.1) (fun h => absurd h hE.out.2.2.1) (fun h => absurd h hE.out.2.2.2.1) (fun h => absurd h hE.out.2.2.2.2.1) (fun h => absurd h hE.out.2.2.2.2.2) (fun _ => by have := hrl.out; omega)))
          as_aux_lemma =>
            go_wp2_with fail
            refine (C22.out _ (by first | exact Below.refl _ _ | exact below_dn _ _ _ | exact (below_dn _ _ _).trans (below_dn _ _ _))).mono ?_
            rintro e w6 ⟨rfl, h6, g6⟩
            have H19 := Lib.hid (bad_r h6)
            have H23 := Lib.hid (done_r h6)
            have H21 := Lib.hid (left_r h6)
            replace h6 := Lib.hid h6
            replace g6 := Lib.hid g6
            go_wp2_with fail
            refine H19.out.mono ?_
            rintro e w7 ⟨rfl, rfl⟩
            go_wp2_with fail
            refine H23.out.mono ?_
            rintro e w7 ⟨rfl, rfl⟩
            go_wp2_with fail
            refine H21.out.mono ?_
            rintro e w7 ⟨rfl, rfl⟩
            go_wp2_with fail
            refine (left24 _ _ _ _ _).mono ?_
            rintro e w7 ⟨rfl, rfl⟩
            go_wp2_with fail
            refine ⟨⟨j + 1, _, _, _, L, _, hlt, rfl, rfl, rfl, ?_, ?_, ?_, ?_⟩, ?_⟩
            · exact Lib.hid (hst.out.grown g6.out)
            · exact hm5
            · exact h6
            · exact Lib.hid (hbl.out.trans ((grown_below g6.out hIr).mono hIw))
            · simp [intOf]
              first | exact meas hlt | omega
        obtain ⟨vn, rfl⟩ := Int.eq_ofNat_of_zero_le (a := tv) (Int.not_lt.1 hv0')
        have hvle : vn ≤ m := Int.ofNat_le.1 (Int.not_lt.1 hvm)
        have C22 : Hid (∀ (aX : Option Addr) (c' : Nat) (w' : World), IntsAt w' .u8 aX vn (gtD (L.take vn)) → (∀ p, aX = some p → p.block ≠ I) → Below wr.heap.size wr w' → Calls Try.prog 22 #[.pointer (some ⟨I, 0, none⟩), .agg #[.int .u8 tk, .int .i64 vn, .int .i64 tl, .bool tf, .slice ta tn tc], .int .u64 0, .slice aX vn c', .bool false] w' fun e w'' => e = .returned (.bool true) ∧ rdLeft w' I (L.drop vn) false w'') := Lib.hid (fun aX c' w' hx hf hq =>
          read_r (t := ⟨tk, vn, tl, tf, ta, tn, tc, tF⟩) (cD := c') (hin.out.keep hq) tk0 tk1 hcl (by omega) hx (by have := hrl.out; simp; omega) hf (rd_plain_ok (k := tk) hkN.out (by have := hrl.out; omega)))
        have hD1 : Hid (∀ w', Below wr.heap.size wr w' → IntsAt w' .u8 aR vn (gtD (L.take vn))) := Lib.hid (fun w' hq => (hst.out.below hq).take hvle)
        have hfar := Lib.hid hst.out.far
        have hLd2 : Hid ((L.drop vn).length = m - vn) := Lib.hid (by have := hrl.out; simp; omega)
        have hv3 : (vn : Int) ≤ m := Int.ofNat_le.2 hvle
        have hv5 : (vn : Int) ≤ cR := Int.ofNat_le.2 (Nat.le_trans hvle hrr.out)
        have hv5n : vn ≤ cR := Nat.le_trans hvle hrr.out
        have hvmn : ¬ m < vn := Nat.not_lt.2 hvle
        cases aR with
        | none =>
          have hnn := hst.out.nil rfl
          obtain ⟨rfl, rfl⟩ := hnn
          obtain rfl : vn = 0 := Nat.le_zero.1 hvle
          have hM3 : Hid (RestAt wr I none 0 0 (L.drop 0)) := Lib.hid (by simpa using hst.out)
          as_aux_lemma =>
            go_wp2_with fail
            go_quiet (fail)
            go_wp2_with fail
            refine (C22.out _ _ _ (hD1.out _ (by first | exact below_dn _ _ _)) hfar.out (by first | exact Below.refl _ _ | exact below_dn _ _ _ | exact (below_dn _ _ _).trans (below_dn _ _ _))).mono ?_
            rintro e w6 ⟨rfl, h6, g6⟩
            have H19 := Lib.hid (bad_r h6)
            have H23 := Lib.hid (done_r h6)
            have H21 := Lib.hid (left_r h6)
            have hL0 : L = [] := List.eq_nil_of_length_eq_zero (by have := hrl.out; omega)
            rw [show (L.drop 0) = [] from by rw [hL0]; rfl] at H21 H23
            replace h6 := Lib.hid h6
            replace g6 := Lib.hid g6
            go_wp2_with fail
            refine H19.out.mono ?_
            rintro e w7 ⟨rfl, rfl⟩
            go_wp2_with fail
            refine H23.out.mono ?_
            rintro e w7 ⟨rfl, rfl⟩
            go_wp2_with fail
            refine H21.out.mono ?_
            rintro e w7 ⟨rfl, rfl⟩
            go_wp2_with fail
            refine (left24 _ _ _ _ _).mono ?_
            rintro e w7 ⟨rfl, rfl⟩
            go_wp2_with fail
            refine ⟨⟨j + 1, _, _, _, (L.drop 0), _, hlt, rfl, rfl, rfl, ?_, ?_, ?_, ?_⟩, ?_⟩
            · exact Lib.hid (RestAt.grown (RestAt.below hM3.out (by first | exact Below.refl _ _ | exact below_dn _ _ _ | exact (below_dn _ _ _).trans (below_dn _ _ _))) g6.out)
            · exact Lib.hid (by first | exact Nat.le_trans (Nat.sub_le _ _) hm5.out | exact Nat.le_trans (Nat.sub_le _ _) (Nat.le_trans (Nat.sub_le _ _) hm5.out) | exact hm5.out | exact Nat.zero_le _)
            · exact by simpa [cur] using h6
            · exact Lib.hid (hbl.out.trans ((below_dn _ _ _).trans ((grown_below g6.out hIr).mono hIw)))
            · simp [intOf]
              first | exact meas hlt | omega
        | some pR =>
          obtain ⟨bR, oR, sR⟩ := pR
          by_cases hm0 : m = 0
          · subst hm0
            obtain rfl : vn = 0 := Nat.le_zero.1 hvle
            have hG : Hid (∀ (a' : Addr) (c' : Nat), c' ≤ cR → a'.block = bR → RestAt wr I (some a') 0 c' L) := Lib.hid (fun a' c' h1 h2 => by
              have := hst.out.dropA (k := 0) (a' := some a') rfl h1 (fun e => by cases e) (fun p' e => ⟨⟨bR, oR, sR⟩, rfl, by (cases e; exact h2)⟩)
              simpa using this)
            by_cases hcV : cR = 0
            · subst hcV
              as_aux_lemma =>
                go_wp2_with fail
                go_quiet (fail)
                go_wp2_with fail
                refine (C22.out _ _ _ (hD1.out _ (by first | exact below_dn _ _ _)) hfar.out (by first | exact Below.refl _ _ | exact below_dn _ _ _ | exact (below_dn _ _ _).trans (below_dn _ _ _))).mono ?_
                rintro e w6 ⟨rfl, h6, g6⟩
                have H19 := Lib.hid (bad_r h6)
                have H23 := Lib.hid (done_r h6)
                have H21 := Lib.hid (left_r h6)
                have hL0 : L = [] := List.eq_nil_of_length_eq_zero (by have := hrl.out; omega)
                rw [show (L.drop 0) = [] from by rw [hL0]; rfl] at H21 H23
                replace h6 := Lib.hid h6
                replace g6 := Lib.hid g6
                go_wp2_with fail
                refine H19.out.mono ?_
                rintro e w7 ⟨rfl, rfl⟩
                go_wp2_with fail
                refine H23.out.mono ?_
                rintro e w7 ⟨rfl, rfl⟩
                go_wp2_with fail
                refine H21.out.mono ?_
                rintro e w7 ⟨rfl, rfl⟩
                go_wp2_with fail
                refine (left24 _ _ _ _ _).mono ?_
                rintro e w7 ⟨rfl, rfl⟩
                go_wp2_with fail
                refine ⟨⟨j + 1, _, _, _, L, _, hlt, rfl, rfl, rfl, ?_, ?_, ?_, ?_⟩, ?_⟩
                · exact Lib.hid (RestAt.grown (RestAt.below (hG.out _ _ (by first | exact Nat.le_refl _ | exact Nat.zero_le _ | simp) (by first | rfl | (unfold Addr.add; split <;> rfl))) (by first | exact Below.refl _ _ | exact below_dn _ _ _ | exact (below_dn _ _ _).trans (below_dn _ _ _))) g6.out)
                · exact Lib.hid (by first | exact hm5.out | exact Nat.zero_le _)
                · exact by first | exact h6 | simpa [cur] using h6
                · exact Lib.hid (hbl.out.trans ((below_dn _ _ _).trans ((grown_below g6.out hIr).mono hIw)))
                · simp [intOf]
                  first | exact meas hlt | omega
            · as_aux_lemma =>
                go_wp2_with fail
                go_quiet (fail)
                go_wp2_with fail
                refine (C22.out _ _ _ (hD1.out _ (by first | exact below_dn _ _ _)) hfar.out (by first | exact Below.refl _ _ | exact below_dn _ _ _ | exact (below_dn _ _ _).trans (below_dn _ _ _))).mono ?_
                rintro e w6 ⟨rfl, h6, g6⟩
                have H19 := Lib.hid (bad_r h6)
                have H23 := Lib.hid (done_r h6)
                have H21 := Lib.hid (left_r h6)
                have hL0 : L = [] := List.eq_nil_of_length_eq_zero (by have := hrl.out; omega)
                rw [show (L.drop 0) = [] from by rw [hL0]; rfl] at H21 H23
                replace h6 := Lib.hid h6
                replace g6 := Lib.hid g6
                go_wp2_with fail
                refine H19.out.mono ?_
                rintro e w7 ⟨rfl, rfl⟩
                go_wp2_with fail
                refine H23.out.mono ?_
                rintro e w7 ⟨rfl, rfl⟩
                go_wp2_with fail
                refine H21.out.mono ?_
                rintro e w7 ⟨rfl, rfl⟩
                go_wp2_with fail
                refine (left24 _ _ _ _ _).mono ?_
                rintro e w7 ⟨rfl, rfl⟩
                go_wp2_with fail
                refine ⟨⟨j + 1, _, _, _, L, _, hlt, rfl, rfl, rfl, ?_, ?_, ?_, ?_⟩, ?_⟩
                · exact Lib.hid (RestAt.grown (RestAt.below (hG.out _ _ (by first | exact Nat.le_refl _ | exact Nat.zero_le _ | simp) (by first | rfl | (unfold Addr.add; split <;> rfl))) (by first | exact Below.refl _ _ | exact below_dn _ _ _ | exact (below_dn _ _ _).trans (below_dn _ _ _))) g6.out)
                · exact Lib.hid (by first | exact hm5.out | exact Nat.zero_le _)
                · exact by first | exact h6 | simpa [cur] using h6
                · exact Lib.hid (hbl.out.trans ((below_dn _ _ _).trans ((grown_below g6.out hIr).mono hIw)))
                · simp [intOf]
                  first | exact meas hlt | omega
          obtain ⟨b2, o2, e2⟩ := hst.out.nonempty (Nat.pos_of_ne_zero hm0)
          injection e2 with e2
          injection e2 with e3 e4 e5
          subst e3 e4 e5
          have hM1 : Hid (cR = vn → RestAt wr I (some ⟨bR, oR, none⟩) (m - vn) 0 (L.drop vn)) := Lib.hid (fun h => hst.out.dropA (by have := hrr.out; omega) (Nat.zero_le _) (fun e => by cases e) (fun p' e => ⟨p', e, rfl⟩))
          have hM3 : Hid (RestAt wr I (some ⟨bR, oR + vn, none⟩) (m - vn) (cR - vn) (L.drop vn)) := Lib.hid (hst.out.dropB hvle)
          by_cases hcV : cR = vn
          · replace hcV := hcV.symm
            subst hcV
            obtain rfl : m = vn := Nat.le_antisymm hrr.out hvle
            have hLn : L.drop m = [] := List.eq_nil_of_length_eq_zero (hLd2.out.trans (Nat.sub_self _))
            have hR1 : Hid (RestAt wr I (some ⟨bR, oR, none⟩) 0 0 []) := Lib.hid (by
              have := hM1.out rfl
              rwa [Nat.sub_self, hLn] at this)
            rw [hLn] at C22
            replace hLn := Lib.hid hLn
            as_aux_lemma =>
              go_wp2_with fail
              go_quiet (fail)
              go_wp2_with fail
              refine (C22.out _ _ _ (hD1.out _ (by first | exact below_dn _ _ _)) hfar.out (by first | exact Below.refl _ _ | exact below_dn _ _ _ | exact (below_dn _ _ _).trans (below_dn _ _ _))).mono ?_
              rintro e w6 ⟨rfl, h6, g6⟩
              have H19 := Lib.hid (bad_r h6)
              have H23 := Lib.hid (done_r h6)
              have H21 := Lib.hid (left_r h6)
              replace h6 := Lib.hid h6
              replace g6 := Lib.hid g6
              go_wp2_with fail
              refine H19.out.mono ?_
              rintro e w7 ⟨rfl, rfl⟩
              go_wp2_with fail
              refine H23.out.mono ?_
              rintro e w7 ⟨rfl, rfl⟩
              go_wp2_with fail
              refine H21.out.mono ?_
              rintro e w7 ⟨rfl, rfl⟩
              go_wp2_with fail
              refine (left24 _ _ _ _ _).mono ?_
              rintro e w7 ⟨rfl, rfl⟩
              go_wp2_with fail
              refine ⟨⟨j + 1, _, _, _, [], _, hlt, rfl, rfl, rfl, ?_, ?_, ?_, ?_⟩, ?_⟩
              · exact Lib.hid (RestAt.grown (RestAt.below hR1.out (by first | exact Below.refl _ _ | exact below_dn _ _ _ | exact (below_dn _ _ _).trans (below_dn _ _ _))) g6.out)
              · exact Lib.hid (Nat.zero_le _)
              · exact by first | exact h6 | simpa [cur] using h6
              · exact Lib.hid (hbl.out.trans ((below_dn _ _ _).trans ((grown_below g6.out hIr).mono hIw)))
              · simp [intOf]
                first | exact meas hlt | omega
          · as_aux_lemma =>
              go_wp2_with fail
              go_quiet (fail)
              go_wp2_with fail
              refine (C22.out _ _ _ (hD1.out _ (by first | exact below_dn _ _ _)) hfar.out (by first | exact Below.refl _ _ | exact below_dn _ _ _ | exact (below_dn _ _ _).trans (below_dn _ _ _))).mono ?_
              rintro e w6 ⟨rfl, h6, g6⟩
              have H19 := Lib.hid (bad_r h6)
              have H23 := Lib.hid (done_r h6)
              have H21 := Lib.hid (left_r h6)
              have hzz : ((m - vn : Nat) : Int) = 0 ↔ L.drop vn = [] := by
                have := hLd2.out
                rw [← List.length_eq_zero_iff, this]
                exact ncz _
              rw [hLd2.out] at H21
              obtain ⟨Z, hZ⟩ : ∃ Z, decide (L.drop vn = []) = Z := ⟨_, rfl⟩
              have hZ2 : (((m - vn : Nat) : Int) == 0) = Z := by rw [← hZ, Bool.eq_iff_iff]; simpa using hzz
              rw [hZ] at H23
              replace hZ := Lib.hid hZ
              replace hzz := Lib.hid hzz
              replace h6 := Lib.hid h6
              replace g6 := Lib.hid g6
              go_wp2_with fail
              refine H19.out.mono ?_
              rintro e w7 ⟨rfl, rfl⟩
              go_wp2_with fail
              refine H23.out.mono ?_
              rintro e w7 ⟨rfl, rfl⟩
              go_wp2_with fail
              refine H21.out.mono ?_
              rintro e w7 ⟨rfl, rfl⟩
              go_wp2_with fail
              refine (left24 _ _ _ _ _).mono ?_
              rintro e w7 ⟨rfl, rfl⟩
              go_wp2_with fail
              refine ⟨⟨j + 1, _, _, _, (L.drop vn), _, hlt, rfl, rfl, rfl, ?_, ?_, ?_, ?_⟩, ?_⟩
              · exact Lib.hid (RestAt.grown (RestAt.below hM3.out (by first | exact Below.refl _ _ | exact below_dn _ _ _ | exact (below_dn _ _ _).trans (below_dn _ _ _))) g6.out)
              · exact Lib.hid (by first | exact Nat.le_trans (Nat.sub_le _ _) hm5.out | exact Nat.le_trans (Nat.sub_le _ _) (Nat.le_trans (Nat.sub_le _ _) hm5.out) | exact hm5.out | exact Nat.zero_le _)
              · exact by simpa [cur] using h6
              · exact Lib.hid (hbl.out.trans ((below_dn _ _ _).trans ((grown_below g6.out hIr).mono hIw)))
              · simp [intOf]
                first | exact meas hlt | omega
    · obtain rfl : j = n2 := by omega
      have hlt' : ¬ (j : Int) < j := by omega
      go_wp2_with fail
      go_ret
      exact ⟨rfl, hbl.out⟩

end Go.Proofs.Ytnkgbigjpihfeaa.Kd
