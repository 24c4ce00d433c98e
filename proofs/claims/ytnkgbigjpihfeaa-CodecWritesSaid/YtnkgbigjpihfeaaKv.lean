/- Whatever is put, the bytes are what the document says: the walk of CodecWrites. -/
import Derived.Test.YtnkgbigjpihfeaaKu
set_option linter.unusedVariables false
set_option linter.unusedSimpArgs false
namespace Go.Proofs.Ytnkgbigjpihfeaa.Kd
open Go.RowKit Go.Proofs.Ytnkgbigjpihfeaa.Lib

theorem meas {j n : Nat} (h : j < n) : n - (j + 1) < n - j := by omega

theorem own_put {w w' : World} {O base size n : Nat} {e : TypeId} {v v' wv : Value} {xs : List Value} (h : w.ownsRow (O + 1) e size wv n xs) (hp : Put w O v w' v') (hd : ∀ g, wv.ownBlock = some g → some g ≠ v.ownBlock) : w'.ownsRow (O + 1) e size wv n xs := by
  refine ⟨h.1, ?_⟩
  rcases h.2 with h0 | ⟨g, cap, cur, rfl, hb, hg, hnc, hcm, hcs, ht⟩
  · exact Or.inl h0
  · exact Or.inr ⟨g, cap, cur, rfl, hb, (hp.only g (Array.getElem?_eq_some_iff.1 hg).1 (by omega) (hd g rfl)).trans hg, hnc, hcm, hcs, ht⟩

theorem own_far {w w' : World} {O size n : Nat} {e : TypeId} {v v' wv : Value} {xs : List Value} (h : w.ownsRow (O + 1) e size wv n xs) (hp : Put w O v w' v') (hd : ∀ g, wv.ownBlock = some g → some g ≠ v.ownBlock) : ∀ g, wv.ownBlock = some g → some g ≠ v'.ownBlock := fun g hg e => by
  rcases hp.own g e.symm with h1 | h1
  · exact hd g hg h1.symm
  · have := (h.lt g hg).2
    omega

theorem putL_snd {l : List Int} {t : It} {g : Bool} (hg : g = true ↔ itGood t) : (putL l false t).2 = !g := by
  cases hx : (putL l false t).2
  · have := (putL_false hx).2.1
    rw [hg.2 this]
    rfl
  · cases g
    · rfl
    · exfalso
      have hG := hg.1 rfl
      obtain ⟨g0, g1, g2, g5⟩ := hG
      unfold putL at hx
      by_cases e0 : t.k = 0
      · rw [if_pos e0, smallL_good (g0 e0).1 (by rw [p1]; exact (g0 e0).2)] at hx
        cases hx
      by_cases e1 : t.k = 1
      · rw [if_neg e0, if_pos e1, smallL_good (g1 e1).1 (by rw [p2]; exact (g1 e1).2)] at hx
        cases hx
      by_cases e2 : t.k = 2
      · rw [if_neg e0, if_neg e1, if_pos e2, smallL_good (g2 e2).1 (by rw [p4]; exact (g2 e2).2)] at hx
        cases hx
      by_cases e3 : t.k = 3
      · rw [if_neg e0, if_neg e1, if_neg e2, if_pos e3] at hx
        cases hx
      by_cases e4 : t.k = 4
      · rw [if_neg e0, if_neg e1, if_neg e2, if_neg e3, if_pos e4, smallL_good (by split <;> omega) (by rw [p1]; split <;> omega)] at hx
        cases hx
      by_cases e5 : t.k = 5
      · rw [if_neg e0, if_neg e1, if_neg e2, if_neg e3, if_neg e4, if_pos e5] at hx
        have h5 := g5 e5
        simp only [smallL_good (l := l) (x := (t.n : Int)) (k := 2) (by omega) (by rw [p2]; omega)] at hx
        cases hx
      · rw [if_neg e0, if_neg e1, if_neg e2, if_neg e3, if_neg e4, if_neg e5] at hx
        cases hx
theorem putL_true {l : List Int} {t : It} : (putL l true t).2 = true := by
  cases hx : (putL l true t).2
  · exact absurd (putL_false hx).1 (by decide)
  · rfl

/-- Behind k items, the writer and what is wanted. -/
structure WriteAt (W wr : World) (O : Nat) (T : Nat → It) (k : Nat) (v wv : Value) (Lw : List Int) : Prop where
  out : OutAt wr O v (stL T k).1 (stL T k).2
  want : wr.ownsRow (O + 1) 5 1 wv Lw.length (bts Lw)
  far : ∀ g, wv.ownBlock = some g → some g ≠ v.ownBlock
  same : (stL T k).2 = false → Lw = (stL T k).1
  len : Lw.length ≤ sumN T k + 8 * k
  below : Below W.heap.size W wr

theorem WriteAt.keep {W wr w' : World} {O k : Nat} {T : Nat → It} {v wv : Value} {Lw : List Int} (h : WriteAt W wr O T k v wv Lw) (hW : W.heap.size ≤ wr.heap.size) (hb : Below wr.heap.size wr w') : WriteAt W w' O T k v wv Lw :=
  ⟨h.out.keep hb, owns_keep h.want hb, h.far, h.same, h.len, h.below.trans (hb.mono hW)⟩

/-- The whole step: put, bytes, append. -/
theorem WriteAt.step {W wr w3 w4 w5 : World} {O k : Nat} {T : Nat → It} {v v' wv v5 : Value} {Lw L : List Int} {g : Bool} (h : WriteAt W wr O T k v wv Lw) (hO : W.heap.size ≤ O) (h1 : OutAt w3 O v' (stL T (k + 1)).1 (stL T (k + 1)).2) (h2 : Put wr O v w3 v') (h4 : Below w3.heap.size w3 w4)
    (h5 : w5.ownsRow (O + 1) 5 1 v5 (Lw ++ L).length (bts (Lw ++ L))) (hg : w4.grownBy w5 wv.ownBlock) (hat : v5.ownBlock = wv.ownBlock ∨ v5.ownBlock = some w4.heap.size) (hgood : g = true ↔ itGood (T k)) (hL : g = true → L = itE (T k)) (hl : L.length ≤ (T k).n + 8) :
    WriteAt W w5 O T (k + 1) v' v5 (Lw ++ L) ∧ (stL T (k + 1)).2 = ((stL T k).2 || !g) := by
  have hwant := own_put (base := O) h.want h2 h.far
  have hfar := own_far h.want h2 h.far
  have h1lt := h1.lt
  have h4s := h4.size
  have hwl : ∀ i, wv.ownBlock = some i → O + 1 ≤ i ∧ i < w3.heap.size := fun i e => hwant.lt i e
  have hbw : ∀ i, i < w3.heap.size → some i ≠ wv.ownBlock → w5.heap[i]? = w3.heap[i]? := fun i hi hn => (hg.block i (by omega) hn).trans (h4.block i hi)
  have hbad : (stL T (k + 1)).2 = ((stL T k).2 || !g) := by
    show (putL (stL T k).1 (stL T k).2 (T k)).2 = _
    cases hb : (stL T k).2
    · rw [putL_snd hgood]
      rfl
    · rw [putL_true]
      rfl
  refine ⟨⟨⟨?_, ?_⟩, h5, ?_, ?_, ?_, ?_⟩, hbad⟩
  · exact (hbw O h1lt (fun e => by have := (hwl O e.symm).1; omega)).trans h1.box
  · refine ⟨h1.row.1, ?_⟩
    rcases h1.row.2 with h0 | ⟨q, cap, cur, rfl, hb, hq, hnc, hcm, hcs, ht⟩
    · exact Or.inl h0
    · exact Or.inr ⟨q, cap, cur, rfl, hb, (hbw q (Array.getElem?_eq_some_iff.1 hq).1 (fun e => (hfar q e.symm) rfl)).trans hq, hnc, hcm, hcs, ht⟩
  · intro q hq e
    rcases hat with e1 | e1
    · exact hfar q (by rw [← e1]; exact hq) e
    · rw [e1] at hq
      injection hq with hq
      have := (h1.row.lt q e.symm).2
      omega
  · intro hf
    rw [hf] at hbad
    have hk : (stL T k).2 = false ∧ g = true := by
      have hk' := Bool.or_eq_false_iff.1 hbad.symm
      exact ⟨hk'.1, by simpa using hk'.2⟩
    rw [h.same hk.1, hL hk.2, (stL_step hf).2.2]
  · have := h.len
    have e : sumN T (k + 1) = sumN T k + (T k).n := rfl
    rw [List.length_append]
    omega
  · refine h.below.trans ?_
    have hp := (h2.below h.out).mono hO
    refine hp.trans ((h4.mono (by have := hp.size; have := h.below.size; omega)).trans ⟨hg.os, hg.tape, hg.output, hg.size, fun i hi => hg.block i (by have := h.below.size; have := h2.size; omega) (fun e => by have := (hwl i e.symm).1; omega)⟩)

set_option maxRecDepth 100000 in
set_option maxHeartbeats 6400000 in
theorem codecWrites_walk (a : Option Addr) (n c : Nat) (T : Nat → It) (W : World) (h : ItemsAt W a n T) :
    Calls Try.prog 5 #[.slice a n c] W fun e w' => e = .returned (.bool true) ∧ Below W.heap.size W w' := by
  have hbig := h.1
  have H15 : Hid (∀ w', Calls Try.prog 15 #[] w' fun e w'' => e = .returned (.bool true) ∧ Below w'.heap.size w' w'') := Lib.hid awake02
  have H := Lib.hid h
  clear h
  go_enter Try.func5, Try.ntmps5
  go_wp2_with fail
  refine (H15.out W).mono ?_
  rintro e w1 ⟨rfl, b1⟩
  have H25 := Lib.hid (few_any (c := c) (H.out.below b1))
  replace b1 := Lib.hid b1
  go_wp2_with fail
  refine H25.out.mono ?_
  rintro e w2 ⟨rfl, b, rfl, hb⟩
  replace hb := Lib.hid hb
  cases b with
  | false =>
    go_wp2_with fail
    refine (H15.out _).mono ?_
    rintro e w3 ⟨rfl, b3⟩
    go_wp2_with fail
    go_ret
    exact ⟨rfl, b1.out.trans (b3.mono b1.out.size)⟩
  | true =>
    obtain ⟨hn60, hsum⟩ := hb.out rfl
    replace hsum := Lib.hid hsum
    go_wp2_with fail
    have hs1 := b1.out.size
    have h0 := newOut w2
    have hb0 := b1.out.trans ((Below.refl W.heap.size w2).alloc hs1 (.cells #[.slice none 0 0, .bool false] 39))
    have hst0 : Hid (WriteAt W (w2.alloc (.cells #[.slice none 0 0, .bool false] 39)) w2.heap.size T 0 (.slice none 0 0) (.slice none 0 0) []) := Lib.hid ⟨h0, World.ownsRow_nil _ _ _ _, (fun g e => by cases e), (fun _ => rfl), Nat.zero_le _, hb0⟩
    clear h0 hb0
    generalize w2.alloc (.cells #[.slice none 0 0, .bool false] 39) = wa at *
    generalize hO : w2.heap.size = O at *
    go_loopw [4, 5, 21] (fun wv bv i wr => ∃ (k : Nat) (v : Value) (Lw : List Int), k ≤ n ∧ i = .int .i64 k ∧ bv = .bool (stL T k).2 ∧ Hid (WriteAt W wr O T k v wv Lw)) (fun _ _ i _ => n - (intOf i).toNat)
    case atStart => exact ⟨0, _, _, Nat.zero_le _, rfl, rfl, hst0⟩
    case round =>
      obtain ⟨k, v, Lw, hk, rfl, rfl, hst⟩ := hrel
      by_cases hlt : k < n
      · have hlt' : (k : Int) < n := by omega
        have Hr := H.out.below (hst.out.below.mono (Nat.le_refl _))
        obtain ⟨b, o, rfl, hbb, hc⟩ := Hr.2.1 (by omega)
        obtain ⟨c0, c1, c2, c3, c4⟩ := hc k hlt
        have hl := stL_len T k
        have hs := hsum.out k hk
        have hs' := hsum.out (k + 1) hlt
        have hsk : sumN T (k + 1) = sumN T k + (T k).n := rfl
        have HP := put_s hst.out.out (Hr.2.2 k hlt) ((H.out.2.2 k hlt).far (by omega)) (by omega) (by omega)
        rw [show (putL (stL T k).1 (stL T k).2 (T k)) = stL T (k + 1) from rfl] at HP
        replace HP := Lib.hid HP
        have hkn : Hid ((T k).n ≤ 300000) := Lib.hid (by omega)
        have hLw : Hid (Lw.length ≤ 300000) := Lib.hid (by have := hst.out.len; omega)
        have hL1 : Hid ((stL T (k + 1)).1.length ≤ 300000) := Lib.hid (by have := stL_len T (k + 1); omega)
        unfold itV at HP
        have hItems := Lib.hid hc
        have hcb : Hid (b < W.heap.size ∧ ∀ j, j < n → W.cell? ⟨b, o + j * 5, none⟩ = some (.int .u8 (T j).k) ∧ W.cell? ⟨b, o + j * 5 + 1, none⟩ = some (.int .i64 (T j).v) ∧ W.cell? ⟨b, o + j * 5 + 2, none⟩ = some (.int .i64 (T j).l) ∧ W.cell? ⟨b, o + j * 5 + 3, none⟩ = some (.bool (T j).f) ∧ W.cell? ⟨b, o + j * 5 + 4, none⟩ = some (.slice (T j).a (T j).n (T j).c)) := Lib.hid (by
          obtain ⟨b2, o2, e2, h1, h2⟩ := H.out.2.1 (by omega)
          cases e2
          exact ⟨h1, h2⟩)
        clear hc Hr hl hs hs' hsk
        go_wp2_with fail
        refine HP.out.mono ?_
        rintro e w3 ⟨rfl, v', h1, h2⟩
        have hb3 : Below W.heap.size W w3 := hst.out.below.trans ((h2.below hst.out.out).mono (show W.heap.size ≤ O by omega))
        obtain ⟨d0, d1, d2, d3, d4⟩ := hcb.out.2 k hlt
        have hbW := hcb.out.1
        have f0 : w3.cell? ⟨b, o + k * 5, none⟩ = some (.int .u8 (T k).k) := (hb3.cell (p := ⟨b, o + k * 5, none⟩) hbW).trans d0
        have f1 : w3.cell? ⟨b, o + k * 5 + 1, none⟩ = some (.int .i64 (T k).v) := (hb3.cell (p := ⟨b, o + k * 5 + 1, none⟩) hbW).trans d1
        have f2 : w3.cell? ⟨b, o + k * 5 + 2, none⟩ = some (.int .i64 (T k).l) := (hb3.cell (p := ⟨b, o + k * 5 + 2, none⟩) hbW).trans d2
        have f3 : w3.cell? ⟨b, o + k * 5 + 3, none⟩ = some (.bool (T k).f) := (hb3.cell (p := ⟨b, o + k * 5 + 3, none⟩) hbW).trans d3
        have f4 : w3.cell? ⟨b, o + k * 5 + 4, none⟩ = some (.slice (T k).a (T k).n (T k).c) := (hb3.cell (p := ⟨b, o + k * 5 + 4, none⟩) hbW).trans d4
        have H27 := Lib.hid (bytes_any ((H.out.2.2 k hlt).below hb3) (by have := hkn.out; omega))
        unfold itV at H27
        clear d0 d1 d2 d3 d4
        replace h1 := Lib.hid h1
        replace h2 := Lib.hid h2
        replace hb3 := Lib.hid hb3
        go_wp2_with fail
        refine H27.out.mono ?_
        rintro e w4 ⟨aB, cB, L, g, rfl, hiB, hnB, hlB, hgB, hEB, b4⟩
        have hw4 : Hid (w4.ownsRow (O + 1) 5 1 _ Lw.length (bts Lw)) := Lib.hid (owns_keep (own_put (base := O) hst.out.want h2.out hst.out.far) b4)
        have hOw : Hid (O + 1 ≤ w4.heap.size) := Lib.hid (by have := h1.out.lt; have := b4.size; omega)
        replace hiB := Lib.hid hiB
        replace hnB := Lib.hid hnB
        replace hlB := Lib.hid hlB
        replace hgB := Lib.hid hgB
        replace hEB := Lib.hid hEB
        replace b4 := Lib.hid b4
        clear f0 f1 f2 f3 f4 c0 c1 c2 c3 c4
        have hLL : Hid (Lw.length + L.length ≤ 1000000) := Lib.hid (by have := hLw.out; have := hlB.out; have := hkn.out; omega)
        have hWO : Hid (W.heap.size ≤ O) := Lib.hid (by omega)
        generalize hbk : (stL T k).2 = bk
        replace hbk := Lib.hid hbk
        cases bk
        · cases g
          · as_aux_lemma =>
              go_wp2_with (first
                        | (at_builtin; refine append_bytes rfl _ _ rfl (O + 1) _ Lw rfl hw4.out aB L.length cB (gtD L) rfl hiB.out hnB.out hLL.out hOw.out ?_; intro v5 w5 h5 h6 h7; rw [lof_gtD] at h5; obtain ⟨a5, k5, c5, rfl⟩ := owns_slice h5; obtain ⟨hst5, hbad5⟩ := hst.out.step (g := false) hWO.out h1.out h2.out b4.out h5 h6 h7 (by first | exact hgB.out | simpa using hgB.out) (by first | exact hEB.out | simpa using hEB.out) hlB.out; rw [hbk.out] at hbad5; replace hst5 := Lib.hid hst5; replace hbad5 := Lib.hid hbad5; replace h5 := Lib.hid h5; replace h6 := Lib.hid h6; replace h7 := Lib.hid h7))
              have hb5 : (stL T (k + 1)).2 = true := by rw [hbad5.out]; rfl
              have ho5 := hst5.out.out
              rw [hb5] at ho5
              replace hb5 := Lib.hid hb5
              have H28 := Lib.hid (end_bad ho5)
              clear ho5
              go_wp2_with fail
              refine H28.out.mono ?_
              rintro e w6 ⟨rfl, rfl⟩
              go_wp2_with fail
              refine ⟨⟨k + 1, v', Lw ++ L, hlt, rfl, by rw [hb5.out], hst5⟩, ?_⟩
              simp [intOf]
              exact meas hlt
          · as_aux_lemma =>
              go_wp2_with (first
                        | (at_builtin; refine append_bytes rfl _ _ rfl (O + 1) _ Lw rfl hw4.out aB L.length cB (gtD L) rfl hiB.out hnB.out hLL.out hOw.out ?_; intro v5 w5 h5 h6 h7; rw [lof_gtD] at h5; obtain ⟨a5, k5, c5, rfl⟩ := owns_slice h5; obtain ⟨hst5, hbad5⟩ := hst.out.step (g := true) hWO.out h1.out h2.out b4.out h5 h6 h7 (by first | exact hgB.out | simpa using hgB.out) (by first | exact hEB.out | simpa using hEB.out) hlB.out; rw [hbk.out] at hbad5; replace hst5 := Lib.hid hst5; replace hbad5 := Lib.hid hbad5; replace h5 := Lib.hid h5; replace h6 := Lib.hid h6; replace h7 := Lib.hid h7))
              have hb5 : (stL T (k + 1)).2 = false := by rw [hbad5.out]; rfl
              have ho5 := hst5.out.out
              rw [hb5] at ho5
              have hsm := hst5.out.same hb5
              replace hb5 := Lib.hid hb5
              have H28 := end_s ho5 (by have := hL1.out; omega)
              rw [← hsm] at H28
              replace H28 := Lib.hid H28
              obtain ⟨a6, c6, e6, hi6, hn6⟩ := own_at h5.out (by rw [hsm]; have := hL1.out; omega)
              injection e6 with q1 q2 q3
              subst q1 q2 q3
              replace hi6 := Lib.hid hi6
              replace hsm := Lib.hid hsm
              clear ho5 hn6
              go_wp2_with fail
              refine H28.out.mono ?_
              rintro e w6 ⟨a7, c7, rfl, hi7, hn7, _, _, _, b6⟩
              have H29 := bytes_same (c := c7) (d := c5) hi7 (hi6.out.below b6)
              rw [List.length_append] at H29
              replace H29 := Lib.hid H29
              replace b6 := Lib.hid b6
              clear hi7 hn7
              go_wp2_with fail
              refine H29.out.mono ?_
              rintro e w7 ⟨rfl, q, rfl⟩
              go_wp2_with fail
              refine ⟨⟨k + 1, v', Lw ++ L, hlt, rfl, by rw [hb5.out], Lib.hid (by have hz := (hst5.out.keep hst5.out.below.size b6.out).keep (Nat.le_trans hst5.out.below.size b6.out.size) (below_dn w6.heap.size w6 q); rw [List.length_append] at hz; exact hz)⟩, ?_⟩
              simp [intOf]
              exact meas hlt
        · as_aux_lemma =>
            go_wp2_with (first
                      | (at_builtin; refine append_bytes rfl _ _ rfl (O + 1) _ Lw rfl hw4.out aB L.length cB (gtD L) rfl hiB.out hnB.out hLL.out hOw.out ?_; intro v5 w5 h5 h6 h7; rw [lof_gtD] at h5; obtain ⟨a5, k5, c5, rfl⟩ := owns_slice h5; obtain ⟨hst5, hbad5⟩ := hst.out.step (g := g) hWO.out h1.out h2.out b4.out h5 h6 h7 (by first | exact hgB.out | simpa using hgB.out) (by first | exact hEB.out | simpa using hEB.out) hlB.out; rw [hbk.out] at hbad5; replace hst5 := Lib.hid hst5; replace hbad5 := Lib.hid hbad5; replace h5 := Lib.hid h5; replace h6 := Lib.hid h6; replace h7 := Lib.hid h7))
            have hb5 : (stL T (k + 1)).2 = true := by rw [hbad5.out]; rfl
            have ho5 := hst5.out.out
            rw [hb5] at ho5
            replace hb5 := Lib.hid hb5
            have H28 := Lib.hid (end_bad ho5)
            clear ho5
            go_wp2_with fail
            refine H28.out.mono ?_
            rintro e w6 ⟨rfl, rfl⟩
            go_wp2_with fail
            refine ⟨⟨k + 1, v', Lw ++ L, hlt, rfl, by rw [hb5.out], hst5⟩, ?_⟩
            simp [intOf]
            exact meas hlt
      · obtain rfl : k = n := by omega
        have hlt' : ¬ (k : Int) < k := by omega
        go_wp2_with fail
        go_ret
        exact ⟨rfl, hst.out.below⟩

end Go.Proofs.Ytnkgbigjpihfeaa.Kd
