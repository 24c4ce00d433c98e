/- Whatever units are moved, and picked: StockPlays walked. -/
import Derived.Test.YtmdkclgmibjlfaaSp
import Derived.Test.YtmdkclgmibjlfaaSk
set_option linter.unusedVariables false
set_option linter.unusedSimpArgs false
namespace Go.Proofs.Ytmdkclgmibjlfaa.Ba
open Go.RowKit Go.Maps Go.Proofs.Ytmdkclgmibjlfaa.Mx Go.Proofs.Ytmdkclgmibjlfaa.Lib

theorem model_bad {a1 a2 : Option Addr} {n c m d : Nat} {S P : Nat → Int} (w : World) (h1 : IntsAt w .i64 a1 n S) (h2 : IntsAt w .i64 a2 m P) (h : ¬ (n = m ∧ n ≤ 200 ∧ okP n P = true)) :
    Calls Try.prog 23 #[.slice a1 n c, .slice a2 m d] w fun e w' => e = .returned (.tuple #[.slice none 0 0, .bool false]) ∧ Below w.heap.size w w' := by
  by_cases hl : n ≠ m ∨ 200 < n
  · refine (model_lens w hl h1.1 h2.1).mono ?_
    rintro e w' ⟨rfl, rfl⟩
    exact ⟨rfl, Below.refl _ _⟩
  · obtain rfl : n = m := by omega
    have hY : okP n P = false := by
      cases hq : okP n P
      · rfl
      · exact absurd ⟨rfl, by omega, hq⟩ h
    refine (model_any w h1 h2 (by omega) (Lib.hid hY)).mono ?_
    rintro e w' ⟨_, h1, h2⟩
    exact ⟨h1 rfl, h2⟩

theorem mayS_range {f t : Int} (h : mayS f t = true) : 0 ≤ t ∧ t < 9 := by
  unfold mayS at h
  split at h
  · have : t = 1 := by simpa using h
    omega
  split at h
  · have : t = 2 ∨ t = 6 := by simpa using h
    omega
  split at h
  · have : t = 3 ∨ t = 4 ∨ t = 5 ∨ t = 8 := by simpa [or_assoc] using h
    omega
  split at h
  · have : t = 7 := by simpa using h
    omega
  split at h
  · have : t = 3 ∨ t = 8 := by simpa using h
    omega
  split at h
  · have : t = 0 ∨ t = 6 := by simpa using h
    omega
  · cases h

def PlOk (E : Units) : Prop := ∀ j, j < E.length → 0 ≤ (E.getD j d4).1 ∧ (E.getD j d4).1 < 9
theorem PlOk.set {E : Units} (h : PlOk E) {j : Nat} {p : Int × Int × Bool × Bool} (hp : 0 ≤ p.1 ∧ p.1 < 9) : PlOk (E.set j p) := fun i hi => by
  have hi' : i < E.length := by simpa using hi
  by_cases e : j = i
  · subst e
    have : (E.set j p).getD j d4 = p := by simp [List.getD, hi']
    rw [this]
    exact hp
  · have : (E.set j p).getD i d4 = E.getD i d4 := by simp [List.getD, List.getElem?_set, e]
    rw [this]
    exact h i hi'

theorem StkAt.far {w w' : World} {B base : Nat} {v : Value} {E : Units} (h : StkAt w B v E) (hB : B < base) (hv : ∀ g, v.ownBlock = some g → g < base) (hb : Below base w w') : StkAt w' B v E := by
  refine ⟨(hb.block B hB).trans h.box, h.row.1, ?_⟩
  rcases h.row.2 with hn | ⟨g, cap, cur, rfl, hg0, hg, rest⟩
  · exact .inl hn
  · exact .inr ⟨g, cap, cur, rfl, hg0, (hb.block g (hv g rfl)).trans hg, rest⟩

theorem cells4_picked {E : Units} {j : Nat} (hj : j < E.length) : cells4 (E.set j (picked (E.getD j d4))) = (cells4 E).set (j * 4) (.int .i64 7) := by
  obtain ⟨_, h2, h3, h4⟩ := cells4_at E j hj
  rw [cells4_set E j _ hj]
  simp only [picked]
  apply List.ext_getElem?
  intro i
  obtain ⟨l2, g2⟩ := (List.getElem?_eq_some_iff.1 h2)
  obtain ⟨l3, g3⟩ := (List.getElem?_eq_some_iff.1 h3)
  obtain ⟨l4, g4⟩ := (List.getElem?_eq_some_iff.1 h4)
  simp only [List.getElem?_set, List.length_set]
  by_cases a3 : j * 4 + 3 = i
  · subst a3; simp [l4, g4]
  · by_cases a2 : j * 4 + 2 = i
    · subst a2; simp [l3, g3]
    · by_cases a1 : j * 4 + 1 = i
      · subst a1; simp [l2, g2]
      · simp [a1, a2, a3]

def matchP (E : Units) (sku : Int) (j : Nat) : Prop := (E.getD j d4).1 = 3 ∧ (E.getD j d4).2.1 = sku

/-- What looking from the end down to lo has found. -/
def FoundP (E : Units) (sku : Int) (lo : Nat) (wn : Int) : Prop :=
  (wn = -1 ∧ ∀ j, lo ≤ j → j < E.length → ¬ matchP E sku j) ∨ ∃ p : Nat, wn = p ∧ lo ≤ p ∧ p < E.length ∧ matchP E sku p ∧ ∀ j, lo ≤ j → j < p → ¬ matchP E sku j

theorem foundP_hit {E : Units} {sku : Int} {l : Nat} (hl : l < E.length) (h : matchP E sku l) : FoundP E sku l l := Or.inr ⟨l, rfl, Nat.le_refl _, hl, h, fun j h1 h2 => absurd h2 (by omega)⟩
theorem foundP_miss {E : Units} {sku wn : Int} {l : Nat} (h : ¬ matchP E sku l) (hf : FoundP E sku (l + 1) wn) : FoundP E sku l wn := by
  rcases hf with ⟨rfl, hf⟩ | ⟨p, rfl, h1, h2, h3, h4⟩
  · refine Or.inl ⟨rfl, fun j hj1 hj2 => ?_⟩
    by_cases e : j = l
    · rw [e]; exact h
    · exact hf j (by omega) hj2
  · refine Or.inr ⟨p, rfl, by omega, h2, h3, fun j hj1 hj2 => ?_⟩
    by_cases e : j = l
    · rw [e]; exact h
    · exact h4 j (by omega) hj2

theorem foundP_pick {E : Units} {sku wn : Int} {pk : Option Nat} (hp : Picks E sku pk) (hf : FoundP E sku 0 wn) : wn = (match pk with | none => -1 | some p => (p : Int)) := by
  rcases hf with ⟨rfl, hf⟩ | ⟨p, rfl, h1, h2, h3, h4⟩
  · cases pk with
    | none => rfl
    | some j => exact absurd ⟨hp.2.1, hp.2.2.1⟩ (hf j (by omega) hp.1)
  · cases pk with
    | none => exact absurd h3 (hp p h2)
    | some j =>
      obtain ⟨g1, g2, g3, g4⟩ := hp
      have : p = j := by
        rcases Nat.lt_trichotomy p j with e | e | e
        · exact absurd h3 (g4 p e)
        · exact e
        · exact absurd ⟨g2, g3⟩ (h4 j (by omega) e)
      simp [this]

set_option maxRecDepth 100000 in
set_option maxHeartbeats 6400000 in
theorem stockPlays_walk (a : Option Addr) (n c : Nat) (S : Nat → Int) (ap : Option Addr) (m cp : Nat) (P : Nat → Int) (s : Option Addr) (l d : Nat) (K A C : Nat → Int) (W : World) (hS : IntsAt W .i64 a n S) (hP : IntsAt W .i64 ap m P) (hs : ActsAt W s l K A C) :
    Calls Try.prog 5 #[.slice a n c, .slice ap m cp, .slice s l d] W fun e w' => e = .returned (.bool true) ∧ Below W.heap.size W w' := by
  have hbign := hS.1
  have hbigm := hP.1
  have hbigl := hs.1
  have H11 : Hid (∀ w', Calls Try.prog 14 #[] w' fun e w'' => e = .returned (.bool true) ∧ Below w'.heap.size w' w'') := Lib.hid awake11
  by_cases hg : 300 < n ∨ 300 < m ∨ 100 < l
  · have hg3 : (300 : Int) < n ∨ ¬ (300 : Int) < n ∧ (300 : Int) < m ∨ ¬ (300 : Int) < n ∧ ¬ (300 : Int) < m ∧ (100 : Int) < l := by omega
    clear hS hs hP hg
    rcases hg3 with q1 | ⟨q1, q2⟩ | ⟨q1, q2, q3⟩
    all_goals
      go_enter Try.func5, Try.ntmps5
      go_wp2_with fail
      refine (H11.out W).mono ?_
      rintro e w1 ⟨rfl, b1⟩
      go_wp2_with fail
      refine (H11.out _).mono ?_
      rintro e w2 ⟨rfl, b2⟩
      go_wp2_with fail
      go_ret
      exact ⟨rfl, b1.trans (b2.mono b1.size)⟩
  have hn' : ¬ (300 : Int) < n := by omega
  have hm' : ¬ (300 : Int) < m := by omega
  have hl' : ¬ (100 : Int) < l := by omega
  have HF := Lib.hid hS
  have HP := Lib.hid hP
  have HS := Lib.hid hs
  clear hS hs hP hg
  by_cases hok : n = m ∧ n ≤ 200 ∧ okP n P = true
  · obtain ⟨rfl, hn2, hok⟩ := hok
    go_enter Try.func5, Try.ntmps5
    go_wp2_with fail
    refine (H11.out W).mono ?_
    rintro e w1 ⟨rfl, b1⟩
    have i1 := Lib.hid (HF.out.below b1)
    have i2 := Lib.hid (HP.out.below b1)
    replace b1 := Lib.hid b1
    go_wp2_with fail
    refine (snew_any w1 i1.out i2.out hn2 (Lib.hid hok)).mono ?_
    rintro e w2 ⟨h1, _, b2⟩
    obtain ⟨rfl, v, hst⟩ := h1 rfl
    replace hst := Lib.hid hst
    have hbB := b1.out.size
    have i3 := Lib.hid (i1.out.below b2)
    have i4 := Lib.hid (i2.out.below b2)
    replace b2 := Lib.hid (b1.out.trans (b2.mono hbB))
    clear h1 b1 i1 i2
    generalize w1.heap.size = B at *
    have hB2 := hst.out.lt
    have hvlo := Lib.hid (show ∀ g, v.ownBlock = some g → B + 1 ≤ g ∧ g < w2.heap.size from hst.out.row.lt)
    go_wp2_with fail
    refine (model_any w2 i3.out i4.out hn2 (Lib.hid hok)).mono ?_
    rintro e w3 ⟨h1, _, b3⟩
    obtain ⟨mv, rfl, hmr⟩ := h1 rfl
    have hw2 := b2.out.size
    have hw3b := b3.size
    replace hst := Lib.hid (hst.out.keep b3)
    have hne := Lib.hid (show mv.ownBlock = none ∨ mv.ownBlock ≠ v.ownBlock from by
      cases hq : mv.ownBlock with
      | none => exact Or.inl rfl
      | some g =>
        right
        intro e
        have h1 := (hmr.lt g hq).1
        have h2 := (hvlo.out g e.symm).2
        omega)
    have hmlo := Lib.hid (show ∀ g, mv.ownBlock = some g → w2.heap.size ≤ g from fun g hq => (hmr.lt g hq).1)
    replace hmr := Lib.hid hmr
    replace b3 := Lib.hid (b2.out.trans (b3.mono hw2))
    clear h1 i3 i4 b2
    generalize w2.heap.size = base at *
    have hEl := usOf_len P S n
    have hEp : Hid (PlOk (usOf P S n)) := Lib.hid fun j hj => by
      have hj' : j < n := by omega
      have := (okP_iff n P).1 hok j hj'
      have e : (usOf P S n).getD j d4 = (P j, S j, false, false) := by simp [usOf, List.getD, hj']
      rw [e]
      exact this
    generalize usOf P S n = E0 at *
    obtain ⟨am, cm, rfl, _⟩ := quads_of_row hmr.out
    rw [hEl] at hmr hne hmlo
    have hmr : Hid (w3.ownsRow base 43 4 (.slice am n cm) n (cells4 E0)) := hmr
    rw [hEl]
    go_wp2_with fail
    go_loopw [60] (fun i wr => ∃ (k : Nat) (E : Units), k ≤ l ∧ i = .int .i64 k ∧ Hid (StkAt wr B v E) ∧ Hid (E.length = n) ∧ Hid (wr.ownsRow base 43 4 (.slice am n cm) n (cells4 E)) ∧ Hid (PlOk E) ∧ Hid (Below W.heap.size W wr) ∧ Hid (base ≤ wr.heap.size)) (fun i _ => l - (intOf i).toNat)
    case atStart => exact ⟨0, E0, Nat.zero_le _, rfl, hst, Lib.hid hEl, hmr, hEp, b3, Lib.hid hw3b⟩
    case round =>
      obtain ⟨k, E, hk, rfl, hst1, hlE, hmr1, hEp1, hbl, hbs⟩ := hrel
      clear hst hEl hmr hEp b3 hw3b
      by_cases hlt : k < l
      · obtain ⟨b, o, rfl, hbb, hc⟩ := HS.out.2 (by omega)
        obtain ⟨ck, ca, cc⟩ := hc k hlt
        replace ck := (hbl.out.cell (p := ⟨b, o + k * 3, none⟩) hbb).trans ck
        replace ca := (hbl.out.cell (p := ⟨b, o + k * 3 + 1, none⟩) hbb).trans ca
        replace cc := (hbl.out.cell (p := ⟨b, o + k * 3 + 2, none⟩) hbb).trans cc
        have hlt' : (k : Int) < l := by omega
        clear hc
        go_upto_region 11 with fail
        have hX0 := heap_alloc_new wr (.cells #[.int .u8 (K k), .int .i64 (A k), .int .i64 (C k)] 31)
        have hba := Lib.hid ((Below.refl wr.heap.size wr).alloc (Nat.le_refl _) (.cells #[.int .u8 (K k), .int .i64 (A k), .int .i64 (C k)] 31))
        have hXl : wr.heap.size < (wr.alloc (.cells #[.int .u8 (K k), .int .i64 (A k), .int .i64 (C k)] 31)).heap.size := by simp
        have hXb : base ≤ wr.heap.size := hbs.out
        have hmX := Lib.hid (show ∀ g, (Value.slice am n cm).ownBlock = some g → base ≤ g ∧ g < wr.heap.size from hmr1.out.lt)
        replace hst1 := Lib.hid (hst1.out.keep hba.out)
        replace hmr1 := Lib.hid (owns_keep hmr1.out hba.out)
        replace hbl := Lib.hid (hbl.out.trans (hba.out.mono hbl.out.size))
        clear hba ck ca cc hbs
        generalize wr.alloc (.cells #[.int .u8 (K k), .int .i64 (A k), .int .i64 (C k)] 31) = wx at *
        generalize wr.heap.size = X at *
        have x0 : wx.cell? ⟨X, 0, none⟩ = some (.int .u8 (K k)) := by simp [World.cell?, hX0]
        have x1 : wx.cell? ⟨X, 1, none⟩ = some (.int .i64 (A k)) := by simp [World.cell?, hX0]
        have x2 : wx.cell? ⟨X, 2, none⟩ = some (.int .i64 (C k)) := by simp [World.cell?, hX0]
        clear hX0
        have hvX : ∀ i, base ≤ i → some i ≠ v.ownBlock := fun i hi e => by have := (hvlo.out i e.symm).2; omega
        replace hvX := Lib.hid hvX
        have hk3 : K k > 3 ∨ ¬ K k > 3 := by omega
        rcases hk3 with hk3 | hk3
        · obtain ⟨pk, hpk⟩ := picks_ex E (A k)
          replace hpk := Lib.hid hpk
          have H18 := Lib.hid (pick_any2 hst1.out (A k) hpk)
          cases pk with
          | none =>
            go_upto_region 13 with (first | (go_at_call 18; refine H18.out.mono ?_; rintro e w4 ⟨⟨rfl, hst4⟩, hb4, hg4⟩))
            have hst4 : StkAt w4 B v E := hst4
            replace hst4 := Lib.hid hst4
            have hrow4 := hmr1.out.kept hg4 hne.out
            have hs4 := hg4.size
            have y1 : w4.cell? ⟨X, 1, none⟩ = some (.int .i64 (A k)) := (World.cell?_of_block (a := ⟨X, 1, none⟩) (hg4.block X hXl (hvX.out X hXb))).trans x1
            have hbl4 := Lib.hid (hbl.out.trans (hb4.mono (by omega)))
            have hr4 : w4.ownsRow base 43 4 (.slice am n cm) E.length (cells4 E) := by rw [hlE.out]; exact hrow4
            obtain ⟨am2, cm2, hv4, _, hq4⟩ := quads_of_row hr4
            injection hv4 with ha2 _ _
            subst ha2
            have hlen : E.length = n := hlE.out
            replace hq4 := Lib.hid hq4
            replace hrow4 := Lib.hid hrow4
            have hb4s : base ≤ w4.heap.size := by omega
            clear hr4 hb4 hg4 H18 x0 x1 x2 hst1 hmr1 hbl
            replace hlen := Lib.hid hlen
            go_wp2_with fail
            go_loopw [15, 16] (fun want kk w5 => ∃ (lo q : Nat) (wn : Int), lo ≤ n ∧ want = .int .i64 wn ∧ kk = .int .i64 ((lo : Int) - 1) ∧ Hid (FoundP E (A k) lo wn) ∧ w5 = w4.drewN q) (fun _ kk _ => (intOf kk + 1).toNat)
            case atStart => exact ⟨n, 0, -1, Nat.le_refl _, rfl, by go_num, Lib.hid (Or.inl ⟨rfl, fun j h1 h2 => absurd h2 (by have := hlen.out; omega)⟩), rfl⟩
            case round =>
              obtain ⟨lo, q, wn, hlo, rfl, rfl, hF, rfl⟩ := hrel
              cases lo with
              | zero =>
                rw [show (((0 : Nat) : Int) - 1) = -1 from rfl]
                have hw := foundP_pick hpk.out hF.out
                simp only at hw
                subst hw
                have hst5 := Lib.hid (hst4.out.keep (below_dn _ w4 q))
                have hrow5 := Lib.hid (owns_keep hrow4.out (below_dn _ w4 q))
                have hbl5 := Lib.hid (hbl4.out.trans (below_dn _ w4 q))
                have hs5 : base ≤ (w4.drewN q).heap.size := hb4s
                generalize w4.drewN q = wq at *
                go_wp2_with fail
                go_roundw
                case rel => exact ⟨k + 1, E, by omega, by go_num, hst5, hlE, hrow5, hEp1, hbl5, Lib.hid hs5⟩
                case measure => simp [intOf]; omega
              | succ l2 =>
                have ej : ((l2 + 1 : Nat) : Int) - 1 = (l2 : Int) := by omega
                rw [ej]
                have hl2 : l2 < E.length := by have := hlen.out; omega
                obtain ⟨g, rfl, hg, _, q4⟩ := hq4.out l2 hl2
                have c0 := q4.c0
                have c1 := q4.c1
                have hl2' : (l2 : Int) < n := by omega
                have f1 := Lib.hid (fun h => foundP_hit (E := E) (sku := A k) hl2 h)
                have f2 := Lib.hid (fun h => foundP_miss (E := E) (sku := A k) (l := l2) h hF.out)
                unfold matchP at f1 f2
                clear q4
                generalize (E.getD l2 d4).1 = p0 at *
                generalize (E.getD l2 d4).2.1 = p1 at *
                have z1 : (w4.drewN q).cell? ⟨X, 1, none⟩ = some (.int .i64 (A k)) := y1
                cases m0 : (p0 == 3)
                · have f3 := Lib.hid (f2.out (fun h => by simp [h.1] at m0))
                  go_wp2_with fail
                  go_quiet (fail)
                  go_wp2_with fail
                  go_roundw
                  case rel => exact ⟨l2, q + nq, wn, by omega, rfl, by go_num, f3, by simp⟩
                  case measure => simp [intOf]
                · cases m1 : (p1 == A k)
                  · have f3 := Lib.hid (f2.out (fun h => by simp [h.2] at m1))
                    go_wp2_with fail
                    go_quiet (fail)
                    go_wp2_with fail
                    go_roundw
                    case rel => exact ⟨l2, q + nq, wn, by omega, rfl, by go_num, f3, by simp⟩
                    case measure => simp [intOf]
                  · have f3 := Lib.hid (f1.out ⟨by simpa using m0, by simpa using m1⟩)
                    go_wp2_with fail
                    go_quiet (fail)
                    go_wp2_with fail
                    go_roundw
                    case rel => exact ⟨l2, q + nq, l2, by omega, rfl, by go_num, f3, by simp⟩
                    case measure => simp [intOf]
          | some p =>
            go_upto_region 13 with (first | (go_at_call 18; refine H18.out.mono ?_; rintro e w4 ⟨⟨rfl, hst4⟩, hb4, hg4⟩))
            have hst4 : StkAt w4 B v (E.set p (picked (E.getD p d4))) := hst4
            replace hst4 := Lib.hid hst4
            have hrow4 := hmr1.out.kept hg4 hne.out
            have hs4 := hg4.size
            have y1 : w4.cell? ⟨X, 1, none⟩ = some (.int .i64 (A k)) := (World.cell?_of_block (a := ⟨X, 1, none⟩) (hg4.block X hXl (hvX.out X hXb))).trans x1
            have hbl4 := Lib.hid (hbl.out.trans (hb4.mono (by omega)))
            have hr4 : w4.ownsRow base 43 4 (.slice am n cm) E.length (cells4 E) := by rw [hlE.out]; exact hrow4
            obtain ⟨am2, cm2, hv4, _, hq4⟩ := quads_of_row hr4
            injection hv4 with ha2 _ _
            subst ha2
            have hlen : E.length = n := hlE.out
            replace hq4 := Lib.hid hq4
            replace hrow4 := Lib.hid hrow4
            have hb4s : base ≤ w4.heap.size := by omega
            clear hr4 hb4 hg4 H18 x0 x1 x2 hst1 hmr1 hbl
            replace hlen := Lib.hid hlen
            go_wp2_with fail
            go_loopw [15, 16] (fun want kk w5 => ∃ (lo q : Nat) (wn : Int), lo ≤ n ∧ want = .int .i64 wn ∧ kk = .int .i64 ((lo : Int) - 1) ∧ Hid (FoundP E (A k) lo wn) ∧ w5 = w4.drewN q) (fun _ kk _ => (intOf kk + 1).toNat)
            case atStart => exact ⟨n, 0, -1, Nat.le_refl _, rfl, by go_num, Lib.hid (Or.inl ⟨rfl, fun j h1 h2 => absurd h2 (by have := hlen.out; omega)⟩), rfl⟩
            case round =>
              obtain ⟨lo, q, wn, hlo, rfl, rfl, hF, rfl⟩ := hrel
              cases lo with
              | zero =>
                rw [show (((0 : Nat) : Int) - 1) = -1 from rfl]
                have hw := foundP_pick hpk.out hF.out
                simp only at hw
                subst hw
                have hst5 := Lib.hid (hst4.out.keep (below_dn _ w4 q))
                have hrow5 := Lib.hid (owns_keep hrow4.out (below_dn _ w4 q))
                have hbl5 := Lib.hid (hbl4.out.trans (below_dn _ w4 q))
                have hs5 : base ≤ (w4.drewN q).heap.size := hb4s
                have hpp := hpk.out.1
                obtain ⟨g, rfl, hg, hgb, q4⟩ := hq4.out p hpp
                have d0 : (w4.drewN q).cell? ⟨g, p * 4, none⟩ = _ := q4.c0
                have df : (w4.drewN q).frozen? ⟨g, p * 4, none⟩ = false := q4.fr (p * 4)
                have hpn : p < n := by have := hlen.out; omega
                have hpn' : (p : Int) < n := by omega
                have hp0 : ¬ (p : Int) < 0 := by omega
                have hp1 : (0 : Int) ≤ p := by omega
                have hbf := Lib.hid ((Below.refl base (w4.drewN q)).setCell (p := ⟨g, p * 4, none⟩) hgb (.int .i64 7))
                have hst6 := Lib.hid (hst5.out.far (by omega) (fun i hi => (hvlo.out i hi).2) hbf.out)
                have hrow6 := (hrow5.out.stored (p * 4) (.int .i64 7)).1
                rw [← cells4_picked hpp] at hrow6
                replace hrow6 := Lib.hid hrow6
                have hbl6 := Lib.hid (hbl5.out.trans (hbf.out.mono (by omega)))
                have hlE2 : Hid ((E.set p (picked (E.getD p d4))).length = n) := Lib.hid (by rw [List.length_set]; exact hlen.out)
                have hEp2 := Lib.hid (hEp1.out.set (j := p) (p := picked (E.getD p d4)) ⟨by simp [picked], by simp [picked]⟩)
                have hs6 := hbf.out.size
                generalize E.set p (picked (E.getD p d4)) = E2 at *
                generalize w4.drewN q = wq at *
                go_wp2_with fail
                go_roundw
                case rel => exact ⟨k + 1, E2, by omega, by go_num, hst6, hlE2, hrow6, hEp2, hbl6, Lib.hid (by omega)⟩
                case measure => simp [intOf]; omega
              | succ l2 =>
                have ej : ((l2 + 1 : Nat) : Int) - 1 = (l2 : Int) := by omega
                rw [ej]
                have hl2 : l2 < E.length := by have := hlen.out; omega
                obtain ⟨g, rfl, hg, _, q4⟩ := hq4.out l2 hl2
                have c0 := q4.c0
                have c1 := q4.c1
                have hl2' : (l2 : Int) < n := by omega
                have f1 := Lib.hid (fun h => foundP_hit (E := E) (sku := A k) hl2 h)
                have f2 := Lib.hid (fun h => foundP_miss (E := E) (sku := A k) (l := l2) h hF.out)
                unfold matchP at f1 f2
                clear q4
                generalize (E.getD l2 d4).1 = p0 at *
                generalize (E.getD l2 d4).2.1 = p1 at *
                have z1 : (w4.drewN q).cell? ⟨X, 1, none⟩ = some (.int .i64 (A k)) := y1
                cases m0 : (p0 == 3)
                · have f3 := Lib.hid (f2.out (fun h => by simp [h.1] at m0))
                  go_wp2_with fail
                  go_quiet (fail)
                  go_wp2_with fail
                  go_roundw
                  case rel => exact ⟨l2, q + nq, wn, by omega, rfl, by go_num, f3, by simp⟩
                  case measure => simp [intOf]
                · cases m1 : (p1 == A k)
                  · have f3 := Lib.hid (f2.out (fun h => by simp [h.2] at m1))
                    go_wp2_with fail
                    go_quiet (fail)
                    go_wp2_with fail
                    go_roundw
                    case rel => exact ⟨l2, q + nq, wn, by omega, rfl, by go_num, f3, by simp⟩
                    case measure => simp [intOf]
                  · have f3 := Lib.hid (f1.out ⟨by simpa using m0, by simpa using m1⟩)
                    go_wp2_with fail
                    go_quiet (fail)
                    go_wp2_with fail
                    go_roundw
                    case rel => exact ⟨l2, q + nq, l2, by omega, rfl, by go_num, f3, by simp⟩
                    case measure => simp [intOf]
        · by_cases hn : 0 ≤ A k ∧ A k < E.length
          · obtain ⟨j, hj⟩ : ∃ j : Nat, A k = j := ⟨(A k).toNat, by omega⟩
            have hjE : j < E.length := by omega
            have hlen := hlE.out
            have hjn : j < n := by omega
            rw [hj] at x1
            have H19 := Lib.hid (move_any2 hst1.out hjE (C k) (Y := mayS (E.getD j d4).1 (C k)) (Lib.hid rfl))
            have hr1 : wx.ownsRow base 43 4 (.slice am n cm) E.length (cells4 E) := by rw [hlen]; exact hmr1.out
            obtain ⟨am2, cm2, hv4, _, hq4⟩ := quads_of_row hr1
            injection hv4 with ha2 he1 he2
            clear he1 he2
            subst ha2
            obtain ⟨g, rfl, hg, hgb, q4⟩ := hq4 j hjE
            have hgX := (hmX.out g rfl).2
            replace hr1 := Lib.hid hr1
            have hpl := Lib.hid (fun hm : mayS (E.getD j d4).1 (C k) = true => mayS_range hm)
            have hset := Lib.hid (cells4_set E j (moved (E.getD j d4) (C k)) hjE)
            have hat := Lib.hid (cells4_at E j hjE)
            obtain ⟨p, hp⟩ : ∃ p, E.getD j d4 = p := ⟨_, rfl⟩
            rw [hp] at H19 q4 hpl hset hat
            obtain ⟨p0, p1, p2, p3⟩ := p
            have H24 := Lib.hid (fun w' => refmoved_any p0 p1 p2 p3 (C k) w' (Y := mayS p0 (C k)) (Lib.hid rfl))
            obtain ⟨c0, c1, c2, c3, fr⟩ := q4
            simp only at c0 c1 c2 c3 H19 hpl
            clear hq4 hj hn hlen
            replace hp := Lib.hid hp
            generalize mayS p0 (C k) = Y at *
            have hjn' : (j : Int) < n := by omega
            have hj0 : ¬ (j : Int) < 0 := by omega
            have hj1 : ¬ (n : Int) ≤ j := by omega
            cases Y
            · go_upto_region 24 with (first | (go_at_call 19; refine H19.out.mono ?_; rintro e w4 ⟨rfl, hst4, hb4, hg4⟩))
              have hs4 := hg4.size
              have hrow4 := Lib.hid (hr1.out.kept hg4 hne.out)
              have y1 : w4.cell? ⟨X, 1, none⟩ = some (.int .i64 j) := (World.cell?_of_block (a := ⟨X, 1, none⟩) (hg4.block X hXl (hvX.out X hXb))).trans x1
              have y2 : w4.cell? ⟨X, 2, none⟩ = some (.int .i64 (C k)) := (World.cell?_of_block (a := ⟨X, 2, none⟩) (hg4.block X hXl (hvX.out X hXb))).trans x2
              have hgk := hg4.block g hg (hvX.out g hgb)
              have d0 := (World.cell?_of_block (a := ⟨g, j * 4, none⟩) hgk).trans c0
              have d1 := (World.cell?_of_block (a := ⟨g, j * 4 + 1, none⟩) hgk).trans c1
              have d2 := (World.cell?_of_block (a := ⟨g, j * 4 + 2, none⟩) hgk).trans c2
              have d3 := (World.cell?_of_block (a := ⟨g, j * 4 + 3, none⟩) hgk).trans c3
              have df := fun i => (World.frozen?_of_block (a := ⟨g, i, none⟩) hgk).trans (fr i)
              have hXl4 : X < w4.heap.size := by omega
              have hgl4 : g < w4.heap.size := by omega
              have KS : Hid (∀ w', Below w4.heap.size w4 w' → w'.cell? ⟨X, 1, none⟩ = some (.int .i64 j) ∧ w'.cell? ⟨X, 2, none⟩ = some (.int .i64 (C k)) ∧ w'.cell? ⟨g, j * 4, none⟩ = some (.int .i64 p0) ∧ w'.cell? ⟨g, j * 4 + 1, none⟩ = some (.int .i64 p1) ∧ w'.cell? ⟨g, j * 4 + 2, none⟩ = some (.bool p2) ∧ w'.cell? ⟨g, j * 4 + 3, none⟩ = some (.bool p3)) := Lib.hid fun w' hq => ⟨(hq.cell (p := ⟨X, 1, none⟩) hXl4).trans y1, (hq.cell (p := ⟨X, 2, none⟩) hXl4).trans y2, (hq.cell (p := ⟨g, j * 4, none⟩) hgl4).trans d0, (hq.cell (p := ⟨g, j * 4 + 1, none⟩) hgl4).trans d1, (hq.cell (p := ⟨g, j * 4 + 2, none⟩) hgl4).trans d2, (hq.cell (p := ⟨g, j * 4 + 3, none⟩) hgl4).trans d3⟩
              have KF := Lib.hid (fun w' (hq : Below w4.heap.size w4 w') i => (hq.frozen (p := ⟨g, i, none⟩) hgl4).trans (df i))
              replace hst4 := Lib.hid hst4
              have hbl4 := Lib.hid (hbl.out.trans (hb4.mono (by omega)))
              clear c0 c1 c2 c3 fr hgk hb4 hg4 x0 x1 x2 hst1 hmr1 hbl hr1 H19
              have hset2 : cells4 E = ((((cells4 E).set (j * 4) (.int .i64 p0)).set (j * 4 + 1) (.int .i64 p1)).set (j * 4 + 2) (.bool p2)).set (j * 4 + 3) (.bool p3) := by
                have h0 := cells4_set E j (p0, p1, p2, p3) hjE
                have h1 : E.set j (p0, p1, p2, p3) = E := by rw [← hp.out]; simp [List.getD, hjE]
                rw [h1] at h0
                exact h0
              have H24 : Hid (∀ w', Calls Try.prog 24 #[.agg #[.int .i64 p0, .int .i64 p1, .bool p2, .bool p3], .int .i64 (C k)] w' fun e w'' => e = .returned (.tuple #[.agg #[.int .i64 p0, .int .i64 p1, .bool p2, .bool p3], .bool false]) ∧ Below w'.heap.size w' w'') := Lib.hid (fun w' => H24.out w')
              have hst4 : Hid (StkAt w4 B v E) := hst4
              have hEp2 := hEp1
              have hlE2 := hlE
              clear hset hat hpl
              replace hset2 := Lib.hid hset2
              go_wp2_with fail
              go_region_held3 (fun w' => w'.cell? ⟨X, 1, none⟩ = some (.int .i64 j) ∧ w'.cell? ⟨X, 2, none⟩ = some (.int .i64 (C k)) ∧ w'.cell? ⟨g, j * 4, none⟩ = some (.int .i64 p0) ∧ w'.cell? ⟨g, j * 4 + 1, none⟩ = some (.int .i64 p1) ∧ w'.cell? ⟨g, j * 4 + 2, none⟩ = some (.bool p2) ∧ w'.cell? ⟨g, j * 4 + 3, none⟩ = some (.bool p3))
                (first
                  | exact KS.out _ (Below.refl _ _).drew
                  | exact KS.out _ hb5
                  | exact KS.out _ (hb5.alloc hb5.size _)
                  | exact KS.out _ ((Below.refl _ _).alloc (Nat.le_refl _) _).drew
                  | exact KS.out _ ((((hb5.setCell (Nat.le_refl _) _).setCell (Nat.le_refl _) _).setCell (Nat.le_refl _) _).setCell (Nat.le_refl _) _)
                  | go_keep)
                ((go_at_call 24; refine (H24.out _).mono ?_; rintro e w5 ⟨rfl, hb⟩; first | (have hb5 : Below w4.heap.size w4 w5 := (Below.refl _ _).drew.trans hb) | (have hb5 : Below w4.heap.size w4 w5 := (((Below.refl _ _).alloc (Nat.le_refl _) _).drew).trans (hb.mono (by simp)); have hnew : ∀ o, w5.cell? ⟨w4.heap.size, o, none⟩ = (w4.alloc (.cells #[.int .i64 0, .int .i64 0, .bool false, .bool false] 43)).cell? ⟨w4.heap.size, o, none⟩ := (fun o => hb.cell (p := ⟨w4.heap.size, o, none⟩) (by simp)); have hfrz : ∀ o, w5.frozen? ⟨w4.heap.size, o, none⟩ = (w4.alloc (.cells #[.int .i64 0, .int .i64 0, .bool false, .bool false] 43)).frozen? ⟨w4.heap.size, o, none⟩ := (fun o => hb.frozen (p := ⟨w4.heap.size, o, none⟩) (by simp)))))
              · have hzb := Lib.hid (hb5.alloc hb5.size (.cells #[.int .i64 p0, .int .i64 p1, .bool p2, .bool p3] 43))
                have hz := heap_alloc_new w5 (.cells #[.int .i64 p0, .int .i64 p1, .bool p2, .bool p3] 43)
                generalize w5.alloc (.cells #[.int .i64 p0, .int .i64 p1, .bool p2, .bool p3] 43) = wz at *
                generalize w5.heap.size = Z at *
                have z0 : wz.cell? ⟨Z, 0, none⟩ = some (.int .i64 p0) := by simp [World.cell?, hz]
                have z1 : wz.cell? ⟨Z, 1, none⟩ = some (.int .i64 p1) := by simp [World.cell?, hz]
                have z2 : wz.cell? ⟨Z, 2, none⟩ = some (.bool p2) := by simp [World.cell?, hz]
                have z3 : wz.cell? ⟨Z, 3, none⟩ = some (.bool p3) := by simp [World.cell?, hz]
                obtain ⟨k1, k2, e0, e1, e2, e3⟩ := KS.out _ hzb.out
                have kf := KF.out _ hzb.out
                have hst6 := hst4.out.keep hzb.out
                have hrow6 : wz.ownsRow base 43 4 (.slice (some ⟨g, 0, none⟩) n cm) n (cells4 E) := by
                  have t := owns_keep hrow4.out hzb.out
                  rwa [hlE.out] at t
                have hbf : Below base wz ((((wz.setCell ⟨g, j * 4, none⟩ (.int .i64 p0)).setCell ⟨g, j * 4 + 1, none⟩ (.int .i64 p1)).setCell ⟨g, j * 4 + 2, none⟩ (.bool p2)).setCell ⟨g, j * 4 + 3, none⟩ (.bool p3)) := ((((Below.refl base wz).setCell (p := ⟨g, j * 4, none⟩) hgb _).setCell (p := ⟨g, j * 4 + 1, none⟩) hgb _).setCell (p := ⟨g, j * 4 + 2, none⟩) hgb _).setCell (p := ⟨g, j * 4 + 3, none⟩) hgb _
                have hrowf := ((((hrow6.stored (j * 4) (.int .i64 p0)).1.stored (j * 4 + 1) (.int .i64 p1)).1.stored (j * 4 + 2) (.bool p2)).1.stored (j * 4 + 3) (.bool p3)).1
                rw [← hset2.out] at hrowf
                have hstf := Lib.hid (hst6.far (by omega) (fun i hi => (hvlo.out i hi).2) hbf)
                have hs5 := hbl4.out.size
                have hs6 := hzb.out.size
                have hs7 := hbf.size
                have hblf := Lib.hid ((hbl4.out.trans (hzb.out.mono hs5)).trans (hbf.mono (by omega)))
                have hsf := Lib.hid (show base ≤ (((((wz.setCell ⟨g, j * 4, none⟩ (.int .i64 p0)).setCell ⟨g, j * 4 + 1, none⟩ (.int .i64 p1)).setCell ⟨g, j * 4 + 2, none⟩ (.bool p2)).setCell ⟨g, j * 4 + 3, none⟩ (.bool p3))).heap.size from by omega)
                replace hrowf := Lib.hid hrowf
                clear hz hst6 hrow6 hbf hb hb5 d0 d1 d2 d3 df y1 y2 hs7 hs6
                go_wp2_with fail
                go_roundw
                case rel => exact ⟨k + 1, E, by omega, by go_num, hstf, hlE2, hrowf, hEp2, hblf, hsf⟩
                case measure => simp [intOf]; omega
              · have hzb := Lib.hid ((((hb5.setCell (p := ⟨w4.heap.size, 0, none⟩) (Nat.le_refl _) (.int .i64 p0)).setCell (p := ⟨w4.heap.size, 1, none⟩) (Nat.le_refl _) (.int .i64 p1)).setCell (p := ⟨w4.heap.size, 2, none⟩) (Nat.le_refl _) (.bool p2)).setCell (p := ⟨w4.heap.size, 3, none⟩) (Nat.le_refl _) (.bool p3))
                have hz0 : w5.heap[w4.heap.size]? = some (.cells #[.int .i64 0, .int .i64 0, .bool false, .bool false] 43 (0, 0)) := (hb.block w4.heap.size (by simp)).trans (heap_alloc_new w4 (.cells #[.int .i64 0, .int .i64 0, .bool false, .bool false] 43))
                have hz : ((((w5.setCell ⟨w4.heap.size, 0, none⟩ (.int .i64 p0)).setCell ⟨w4.heap.size, 1, none⟩ (.int .i64 p1)).setCell ⟨w4.heap.size, 2, none⟩ (.bool p2)).setCell ⟨w4.heap.size, 3, none⟩ (.bool p3)).heap[w4.heap.size]? = some (.cells #[.int .i64 p0, .int .i64 p1, .bool p2, .bool p3] 43 (0, 0)) := heap_setCell_same _ _ 3 _ _ _ (heap_setCell_same _ _ 2 _ _ _ (heap_setCell_same _ _ 1 _ _ _ (heap_setCell_same w5 _ 0 _ _ _ hz0)))
                clear hnew hfrz hz0
                generalize ((((w5.setCell ⟨w4.heap.size, 0, none⟩ (.int .i64 p0)).setCell ⟨w4.heap.size, 1, none⟩ (.int .i64 p1)).setCell ⟨w4.heap.size, 2, none⟩ (.bool p2)).setCell ⟨w4.heap.size, 3, none⟩ (.bool p3)) = wz at *
                have z0 : wz.cell? ⟨w4.heap.size, 0, none⟩ = some (.int .i64 p0) := by simp [World.cell?, hz]
                have z1 : wz.cell? ⟨w4.heap.size, 1, none⟩ = some (.int .i64 p1) := by simp [World.cell?, hz]
                have z2 : wz.cell? ⟨w4.heap.size, 2, none⟩ = some (.bool p2) := by simp [World.cell?, hz]
                have z3 : wz.cell? ⟨w4.heap.size, 3, none⟩ = some (.bool p3) := by simp [World.cell?, hz]
                obtain ⟨k1, k2, e0, e1, e2, e3⟩ := KS.out _ hzb.out
                have kf := KF.out _ hzb.out
                have hst6 := hst4.out.keep hzb.out
                have hrow6 : wz.ownsRow base 43 4 (.slice (some ⟨g, 0, none⟩) n cm) n (cells4 E) := by
                  have t := owns_keep hrow4.out hzb.out
                  rwa [hlE.out] at t
                have hbf : Below base wz ((((wz.setCell ⟨g, j * 4, none⟩ (.int .i64 p0)).setCell ⟨g, j * 4 + 1, none⟩ (.int .i64 p1)).setCell ⟨g, j * 4 + 2, none⟩ (.bool p2)).setCell ⟨g, j * 4 + 3, none⟩ (.bool p3)) := ((((Below.refl base wz).setCell (p := ⟨g, j * 4, none⟩) hgb _).setCell (p := ⟨g, j * 4 + 1, none⟩) hgb _).setCell (p := ⟨g, j * 4 + 2, none⟩) hgb _).setCell (p := ⟨g, j * 4 + 3, none⟩) hgb _
                have hrowf := ((((hrow6.stored (j * 4) (.int .i64 p0)).1.stored (j * 4 + 1) (.int .i64 p1)).1.stored (j * 4 + 2) (.bool p2)).1.stored (j * 4 + 3) (.bool p3)).1
                rw [← hset2.out] at hrowf
                have hstf := Lib.hid (hst6.far (by omega) (fun i hi => (hvlo.out i hi).2) hbf)
                have hs5 := hbl4.out.size
                have hs6 := hzb.out.size
                have hs7 := hbf.size
                have hblf := Lib.hid ((hbl4.out.trans (hzb.out.mono hs5)).trans (hbf.mono (by omega)))
                have hsf := Lib.hid (show base ≤ (((((wz.setCell ⟨g, j * 4, none⟩ (.int .i64 p0)).setCell ⟨g, j * 4 + 1, none⟩ (.int .i64 p1)).setCell ⟨g, j * 4 + 2, none⟩ (.bool p2)).setCell ⟨g, j * 4 + 3, none⟩ (.bool p3))).heap.size from by omega)
                replace hrowf := Lib.hid hrowf
                clear hz hst6 hrow6 hbf hb hb5 d0 d1 d2 d3 df y1 y2 hs7 hs6
                go_wp2_with fail
                go_roundw
                case rel => exact ⟨k + 1, E, by omega, by go_num, hstf, hlE2, hrowf, hEp2, hblf, hsf⟩
                case measure => simp [intOf]; omega
            · go_upto_region 24 with (first | (go_at_call 19; refine H19.out.mono ?_; rintro e w4 ⟨rfl, hst4, hb4, hg4⟩))
              have hs4 := hg4.size
              have hrow4 := Lib.hid (hr1.out.kept hg4 hne.out)
              have y1 : w4.cell? ⟨X, 1, none⟩ = some (.int .i64 j) := (World.cell?_of_block (a := ⟨X, 1, none⟩) (hg4.block X hXl (hvX.out X hXb))).trans x1
              have y2 : w4.cell? ⟨X, 2, none⟩ = some (.int .i64 (C k)) := (World.cell?_of_block (a := ⟨X, 2, none⟩) (hg4.block X hXl (hvX.out X hXb))).trans x2
              have hgk := hg4.block g hg (hvX.out g hgb)
              have d0 := (World.cell?_of_block (a := ⟨g, j * 4, none⟩) hgk).trans c0
              have d1 := (World.cell?_of_block (a := ⟨g, j * 4 + 1, none⟩) hgk).trans c1
              have d2 := (World.cell?_of_block (a := ⟨g, j * 4 + 2, none⟩) hgk).trans c2
              have d3 := (World.cell?_of_block (a := ⟨g, j * 4 + 3, none⟩) hgk).trans c3
              have df := fun i => (World.frozen?_of_block (a := ⟨g, i, none⟩) hgk).trans (fr i)
              have hXl4 : X < w4.heap.size := by omega
              have hgl4 : g < w4.heap.size := by omega
              have KS : Hid (∀ w', Below w4.heap.size w4 w' → w'.cell? ⟨X, 1, none⟩ = some (.int .i64 j) ∧ w'.cell? ⟨X, 2, none⟩ = some (.int .i64 (C k)) ∧ w'.cell? ⟨g, j * 4, none⟩ = some (.int .i64 p0) ∧ w'.cell? ⟨g, j * 4 + 1, none⟩ = some (.int .i64 p1) ∧ w'.cell? ⟨g, j * 4 + 2, none⟩ = some (.bool p2) ∧ w'.cell? ⟨g, j * 4 + 3, none⟩ = some (.bool p3)) := Lib.hid fun w' hq => ⟨(hq.cell (p := ⟨X, 1, none⟩) hXl4).trans y1, (hq.cell (p := ⟨X, 2, none⟩) hXl4).trans y2, (hq.cell (p := ⟨g, j * 4, none⟩) hgl4).trans d0, (hq.cell (p := ⟨g, j * 4 + 1, none⟩) hgl4).trans d1, (hq.cell (p := ⟨g, j * 4 + 2, none⟩) hgl4).trans d2, (hq.cell (p := ⟨g, j * 4 + 3, none⟩) hgl4).trans d3⟩
              have KF := Lib.hid (fun w' (hq : Below w4.heap.size w4 w') i => (hq.frozen (p := ⟨g, i, none⟩) hgl4).trans (df i))
              replace hst4 := Lib.hid hst4
              have hbl4 := Lib.hid (hbl.out.trans (hb4.mono (by omega)))
              clear c0 c1 c2 c3 fr hgk hb4 hg4 x0 x1 x2 hst1 hmr1 hbl hr1 H19
              have hset2 : cells4 (E.set j (moved (p0, p1, p2, p3) (C k))) = ((((cells4 E).set (j * 4) (.int .i64 (C k))).set (j * 4 + 1) (.int .i64 p1)).set (j * 4 + 2) (.bool (p2 || C k == 2))).set (j * 4 + 3) (.bool (p3 || p0 == 2)) := hset.out
              have H24 : Hid (∀ w', Calls Try.prog 24 #[.agg #[.int .i64 p0, .int .i64 p1, .bool p2, .bool p3], .int .i64 (C k)] w' fun e w'' => e = .returned (.tuple #[.agg #[.int .i64 (C k), .int .i64 p1, .bool (p2 || C k == 2), .bool (p3 || p0 == 2)], .bool true]) ∧ Below w'.heap.size w' w'') := Lib.hid (fun w' => H24.out w')
              have hst4 : Hid (StkAt w4 B v (E.set j (moved (p0, p1, p2, p3) (C k)))) := hst4
              have hEp2 := Lib.hid (hEp1.out.set (j := j) (p := moved (p0, p1, p2, p3) (C k)) (hpl.out (by simp)))
              generalize (p2 || C k == 2) = q2 at *
              generalize (p3 || p0 == 2) = q3 at *
              have hlE2 : Hid ((E.set j (moved (p0, p1, p2, p3) (C k))).length = n) := Lib.hid (by first | exact hlE.out | (rw [List.length_set]; exact hlE.out))
              clear hset hat hpl
              replace hset2 := Lib.hid hset2
              generalize E.set j (moved (p0, p1, p2, p3) (C k)) = E2 at *
              go_wp2_with fail
              go_region_held3 (fun w' => w'.cell? ⟨X, 1, none⟩ = some (.int .i64 j) ∧ w'.cell? ⟨X, 2, none⟩ = some (.int .i64 (C k)) ∧ w'.cell? ⟨g, j * 4, none⟩ = some (.int .i64 p0) ∧ w'.cell? ⟨g, j * 4 + 1, none⟩ = some (.int .i64 p1) ∧ w'.cell? ⟨g, j * 4 + 2, none⟩ = some (.bool p2) ∧ w'.cell? ⟨g, j * 4 + 3, none⟩ = some (.bool p3))
                (first
                  | exact KS.out _ (Below.refl _ _).drew
                  | exact KS.out _ hb5
                  | exact KS.out _ (hb5.alloc hb5.size _)
                  | exact KS.out _ ((Below.refl _ _).alloc (Nat.le_refl _) _).drew
                  | exact KS.out _ ((((hb5.setCell (Nat.le_refl _) _).setCell (Nat.le_refl _) _).setCell (Nat.le_refl _) _).setCell (Nat.le_refl _) _)
                  | go_keep)
                ((go_at_call 24; refine (H24.out _).mono ?_; rintro e w5 ⟨rfl, hb⟩; first | (have hb5 : Below w4.heap.size w4 w5 := (Below.refl _ _).drew.trans hb) | (have hb5 : Below w4.heap.size w4 w5 := (((Below.refl _ _).alloc (Nat.le_refl _) _).drew).trans (hb.mono (by simp)); have hnew : ∀ o, w5.cell? ⟨w4.heap.size, o, none⟩ = (w4.alloc (.cells #[.int .i64 0, .int .i64 0, .bool false, .bool false] 43)).cell? ⟨w4.heap.size, o, none⟩ := (fun o => hb.cell (p := ⟨w4.heap.size, o, none⟩) (by simp)); have hfrz : ∀ o, w5.frozen? ⟨w4.heap.size, o, none⟩ = (w4.alloc (.cells #[.int .i64 0, .int .i64 0, .bool false, .bool false] 43)).frozen? ⟨w4.heap.size, o, none⟩ := (fun o => hb.frozen (p := ⟨w4.heap.size, o, none⟩) (by simp)))))
              · have hzb := Lib.hid (hb5.alloc hb5.size (.cells #[.int .i64 (C k), .int .i64 p1, .bool q2, .bool q3] 43))
                have hz := heap_alloc_new w5 (.cells #[.int .i64 (C k), .int .i64 p1, .bool q2, .bool q3] 43)
                generalize w5.alloc (.cells #[.int .i64 (C k), .int .i64 p1, .bool q2, .bool q3] 43) = wz at *
                generalize w5.heap.size = Z at *
                have z0 : wz.cell? ⟨Z, 0, none⟩ = some (.int .i64 (C k)) := by simp [World.cell?, hz]
                have z1 : wz.cell? ⟨Z, 1, none⟩ = some (.int .i64 p1) := by simp [World.cell?, hz]
                have z2 : wz.cell? ⟨Z, 2, none⟩ = some (.bool q2) := by simp [World.cell?, hz]
                have z3 : wz.cell? ⟨Z, 3, none⟩ = some (.bool q3) := by simp [World.cell?, hz]
                obtain ⟨k1, k2, e0, e1, e2, e3⟩ := KS.out _ hzb.out
                have kf := KF.out _ hzb.out
                have hst6 := hst4.out.keep hzb.out
                have hrow6 : wz.ownsRow base 43 4 (.slice (some ⟨g, 0, none⟩) n cm) n (cells4 E) := by
                  have t := owns_keep hrow4.out hzb.out
                  rwa [hlE.out] at t
                have hbf : Below base wz ((((wz.setCell ⟨g, j * 4, none⟩ (.int .i64 (C k))).setCell ⟨g, j * 4 + 1, none⟩ (.int .i64 p1)).setCell ⟨g, j * 4 + 2, none⟩ (.bool q2)).setCell ⟨g, j * 4 + 3, none⟩ (.bool q3)) := ((((Below.refl base wz).setCell (p := ⟨g, j * 4, none⟩) hgb _).setCell (p := ⟨g, j * 4 + 1, none⟩) hgb _).setCell (p := ⟨g, j * 4 + 2, none⟩) hgb _).setCell (p := ⟨g, j * 4 + 3, none⟩) hgb _
                have hrowf := ((((hrow6.stored (j * 4) (.int .i64 (C k))).1.stored (j * 4 + 1) (.int .i64 p1)).1.stored (j * 4 + 2) (.bool q2)).1.stored (j * 4 + 3) (.bool q3)).1
                rw [← hset2.out] at hrowf
                have hstf := Lib.hid (hst6.far (by omega) (fun i hi => (hvlo.out i hi).2) hbf)
                have hs5 := hbl4.out.size
                have hs6 := hzb.out.size
                have hs7 := hbf.size
                have hblf := Lib.hid ((hbl4.out.trans (hzb.out.mono hs5)).trans (hbf.mono (by omega)))
                have hsf := Lib.hid (show base ≤ (((((wz.setCell ⟨g, j * 4, none⟩ (.int .i64 (C k))).setCell ⟨g, j * 4 + 1, none⟩ (.int .i64 p1)).setCell ⟨g, j * 4 + 2, none⟩ (.bool q2)).setCell ⟨g, j * 4 + 3, none⟩ (.bool q3))).heap.size from by omega)
                replace hrowf := Lib.hid hrowf
                clear hz hst6 hrow6 hbf hb hb5 d0 d1 d2 d3 df y1 y2 hs7 hs6
                go_wp2_with fail
                go_roundw
                case rel => exact ⟨k + 1, E2, by omega, by go_num, hstf, hlE2, hrowf, hEp2, hblf, hsf⟩
                case measure => simp [intOf]; omega
              · have hzb := Lib.hid ((((hb5.setCell (p := ⟨w4.heap.size, 0, none⟩) (Nat.le_refl _) (.int .i64 (C k))).setCell (p := ⟨w4.heap.size, 1, none⟩) (Nat.le_refl _) (.int .i64 p1)).setCell (p := ⟨w4.heap.size, 2, none⟩) (Nat.le_refl _) (.bool q2)).setCell (p := ⟨w4.heap.size, 3, none⟩) (Nat.le_refl _) (.bool q3))
                have hz0 : w5.heap[w4.heap.size]? = some (.cells #[.int .i64 0, .int .i64 0, .bool false, .bool false] 43 (0, 0)) := (hb.block w4.heap.size (by simp)).trans (heap_alloc_new w4 (.cells #[.int .i64 0, .int .i64 0, .bool false, .bool false] 43))
                have hz : ((((w5.setCell ⟨w4.heap.size, 0, none⟩ (.int .i64 (C k))).setCell ⟨w4.heap.size, 1, none⟩ (.int .i64 p1)).setCell ⟨w4.heap.size, 2, none⟩ (.bool q2)).setCell ⟨w4.heap.size, 3, none⟩ (.bool q3)).heap[w4.heap.size]? = some (.cells #[.int .i64 (C k), .int .i64 p1, .bool q2, .bool q3] 43 (0, 0)) := heap_setCell_same _ _ 3 _ _ _ (heap_setCell_same _ _ 2 _ _ _ (heap_setCell_same _ _ 1 _ _ _ (heap_setCell_same w5 _ 0 _ _ _ hz0)))
                clear hnew hfrz hz0
                generalize ((((w5.setCell ⟨w4.heap.size, 0, none⟩ (.int .i64 (C k))).setCell ⟨w4.heap.size, 1, none⟩ (.int .i64 p1)).setCell ⟨w4.heap.size, 2, none⟩ (.bool q2)).setCell ⟨w4.heap.size, 3, none⟩ (.bool q3)) = wz at *
                have z0 : wz.cell? ⟨w4.heap.size, 0, none⟩ = some (.int .i64 (C k)) := by simp [World.cell?, hz]
                have z1 : wz.cell? ⟨w4.heap.size, 1, none⟩ = some (.int .i64 p1) := by simp [World.cell?, hz]
                have z2 : wz.cell? ⟨w4.heap.size, 2, none⟩ = some (.bool q2) := by simp [World.cell?, hz]
                have z3 : wz.cell? ⟨w4.heap.size, 3, none⟩ = some (.bool q3) := by simp [World.cell?, hz]
                obtain ⟨k1, k2, e0, e1, e2, e3⟩ := KS.out _ hzb.out
                have kf := KF.out _ hzb.out
                have hst6 := hst4.out.keep hzb.out
                have hrow6 : wz.ownsRow base 43 4 (.slice (some ⟨g, 0, none⟩) n cm) n (cells4 E) := by
                  have t := owns_keep hrow4.out hzb.out
                  rwa [hlE.out] at t
                have hbf : Below base wz ((((wz.setCell ⟨g, j * 4, none⟩ (.int .i64 (C k))).setCell ⟨g, j * 4 + 1, none⟩ (.int .i64 p1)).setCell ⟨g, j * 4 + 2, none⟩ (.bool q2)).setCell ⟨g, j * 4 + 3, none⟩ (.bool q3)) := ((((Below.refl base wz).setCell (p := ⟨g, j * 4, none⟩) hgb _).setCell (p := ⟨g, j * 4 + 1, none⟩) hgb _).setCell (p := ⟨g, j * 4 + 2, none⟩) hgb _).setCell (p := ⟨g, j * 4 + 3, none⟩) hgb _
                have hrowf := ((((hrow6.stored (j * 4) (.int .i64 (C k))).1.stored (j * 4 + 1) (.int .i64 p1)).1.stored (j * 4 + 2) (.bool q2)).1.stored (j * 4 + 3) (.bool q3)).1
                rw [← hset2.out] at hrowf
                have hstf := Lib.hid (hst6.far (by omega) (fun i hi => (hvlo.out i hi).2) hbf)
                have hs5 := hbl4.out.size
                have hs6 := hzb.out.size
                have hs7 := hbf.size
                have hblf := Lib.hid ((hbl4.out.trans (hzb.out.mono hs5)).trans (hbf.mono (by omega)))
                have hsf := Lib.hid (show base ≤ (((((wz.setCell ⟨g, j * 4, none⟩ (.int .i64 (C k))).setCell ⟨g, j * 4 + 1, none⟩ (.int .i64 p1)).setCell ⟨g, j * 4 + 2, none⟩ (.bool q2)).setCell ⟨g, j * 4 + 3, none⟩ (.bool q3))).heap.size from by omega)
                replace hrowf := Lib.hid hrowf
                clear hz hst6 hrow6 hbf hb hb5 d0 d1 d2 d3 df y1 y2 hs7 hs6
                go_wp2_with fail
                go_roundw
                case rel => exact ⟨k + 1, E2, by omega, by go_num, hstf, hlE2, hrowf, hEp2, hblf, hsf⟩
                case measure => simp [intOf]; omega
          · have hno : inR E (A k) = false := by simp only [inR]; cases h1 : decide (0 ≤ A k) <;> simp_all
            have H19 := Lib.hid (move_out hst1.out hno (C k))
            have hn3 : A k < 0 ∨ ¬ A k < 0 ∧ (n : Int) ≤ A k := by have := hlE.out; omega
            clear hno hn
            rcases hn3 with hn3 | ⟨hn3, hn4⟩
            all_goals
              go_wp2_with fail
              refine H19.out.mono ?_
              rintro e w4 ⟨rfl, rfl⟩
              go_wp2_with fail
              go_roundw
              case rel => exact ⟨k + 1, E, by omega, by go_num, hst1, hlE, hmr1, hEp1, hbl, Lib.hid (by omega)⟩
              case measure => simp [intOf]; omega
      · obtain rfl : k = l := by omega
        have hlt' : ¬ (k : Int) < k := by omega
        have hsm := Lib.hid (same_any hst1.out (base := base) (mv := .slice am n cm) (by rw [hlE.out]; exact hmr1.out) hEp1.out (by rw [hlE.out]; omega))
        go_wp2_with fail
        refine hsm.out.mono ?_
        rintro e w6 ⟨rfl, b6⟩
        go_wp2_with fail
        go_ret
        exact ⟨rfl, hbl.out.trans (b6.mono hbl.out.size)⟩
  · go_enter Try.func5, Try.ntmps5
    go_wp2_with fail
    refine (H11.out W).mono ?_
    rintro e w1 ⟨rfl, b1⟩
    have i1 := Lib.hid (HF.out.below b1)
    have i2 := Lib.hid (HP.out.below b1)
    have H17 := Lib.hid (snew_bad (c := c) (d := cp) w1 i1.out i2.out hok)
    have H23 : Hid (∀ w', Below w1.heap.size w1 w' → Calls Try.prog 23 #[.slice a n c, .slice ap m cp] w' fun e w'' => e = .returned (.tuple #[.slice none 0 0, .bool false]) ∧ Below w'.heap.size w' w'') := Lib.hid fun w' hq => model_bad w' (i1.out.below hq) (i2.out.below hq) hok
    replace b1 := Lib.hid b1
    clear hok i1 i2
    go_wp2_with fail
    refine H17.out.mono ?_
    rintro e w2 ⟨rfl, b2⟩
    go_wp2_with fail
    refine (H23.out _ b2).mono ?_
    rintro e w3 ⟨rfl, b3⟩
    go_wp2_with fail
    go_ret
    have b4 := b1.out.trans (b2.mono b1.out.size)
    exact ⟨rfl, b4.trans (b3.mono b4.size)⟩

end Go.Proofs.Ytmdkclgmibjlfaa.Ba
