/- A stock has what the model has. -/
import Derived.Test.YtmdkclgmibjlfaaSm
import Derived.Deep.RegionHeld3
set_option linter.unusedVariables false
set_option linter.unusedSimpArgs false
namespace Go.Proofs.Ytmdkclgmibjlfaa.Ba
open Go.RowKit Go.Maps Go.Proofs.Ytmdkclgmibjlfaa.Mx Go.Proofs.Ytmdkclgmibjlfaa.Lib

/-- Block X has how many of the first k units are in each place. -/
def CntAt (w : World) (X : Nat) (E : Units) (k : Nat) : Prop :=
  ∃ cs : Array Value, w.heap[X]? = some (.cells cs 83 (0, 0)) ∧ cs.size = 9 ∧ ∀ i : Nat, i < 9 → cs[i]? = some (.int .i64 (total (fPl i) (E.take k)))

theorem CntAt.cell {w : World} {X : Nat} {E : Units} {k : Nat} (h : CntAt w X E k) {i : Nat} (hi : i < 9) : w.cell? ⟨X, i, none⟩ = some (.int .i64 (total (fPl i) (E.take k))) ∧ w.frozen? ⟨X, i, none⟩ = false := by
  obtain ⟨cs, h1, h2, h3⟩ := h
  exact ⟨by simp only [World.cell?, h1]; exact h3 i hi, by simp [World.frozen?, h1]⟩
theorem CntAt.block {w w' : World} {X : Nat} {E : Units} {k : Nat} (h : CntAt w X E k) (e : w'.heap[X]? = w.heap[X]?) : CntAt w' X E k := by
  obtain ⟨cs, h1, h2, h3⟩ := h
  exact ⟨cs, e.trans h1, h2, h3⟩
theorem CntAt.lt {w : World} {X : Nat} {E : Units} {k : Nat} (h : CntAt w X E k) : X < w.heap.size := by
  obtain ⟨cs, h1, _⟩ := h
  exact (Array.getElem?_eq_some_iff.1 h1).1
theorem CntAt.next {w : World} {X : Nat} {E : Units} {k i0 : Nat} (h : CntAt w X E k) (hk : k < E.length) (hi : i0 < 9) (hp : (E.getD k d4).1 = (i0 : Int)) :
    CntAt (w.setCell ⟨X, i0, none⟩ (.int .i64 (total (fPl i0) (E.take k) + 1))) X E (k + 1) := by
  obtain ⟨cs, h1, h2, h3⟩ := h
  refine ⟨_, heap_setCell_same w X i0 _ _ _ h1, by simpa using h2, fun i hi9 => ?_⟩
  rw [totalU_succ (fPl i) E k hk]
  by_cases e : i0 = i
  · subst e
    have e1 : fPl i0 (E.getD k d4) = 1 := by unfold fPl; rw [hp]; simp
    rw [e1]
    simp [h2, hi]
  · rw [Array.getElem?_setIfInBounds_ne e, h3 i hi9]
    have : ((E.getD k d4).1 == (i : Int)) = false := by
      rw [hp]
      simp
      omega
    simp only [fPl, this]
    simp

theorem total_none : ∀ (E : Units), (∀ j, j < E.length → (E.getD j d4).1 < 9) → total (fPl 9) E = 0
  | [], _ => rfl
  | p :: E, h => by
    have ih := total_none E (fun j hj => by simpa using h (j + 1) (by simpa using hj))
    have h0 : p.1 < 9 := by simpa using h 0 (by simp)
    have : (p.1 == 9) = false := by simp; omega
    unfold total at ih ⊢
    simp [fPl, this]
    simpa [fPl] using ih

set_option maxRecDepth 100000 in
set_option maxHeartbeats 6400000 in
theorem same_any {w : World} {B base : Nat} {v mv : Value} {E : Units} (h : StkAt w B v E) (hm : w.ownsRow base 43 4 mv E.length (cells4 E)) (hE : ∀ j, j < E.length → 0 ≤ (E.getD j d4).1 ∧ (E.getD j d4).1 < 9) (hn : E.length ≤ 300) :
    Calls Try.prog 25 #[.pointer (some ⟨B, 0, none⟩), mv] w fun e w' => e = .returned (.bool true) ∧ Below w.heap.size w w' := by
  obtain ⟨am, cm, rfl, hbm, hqm⟩ := quads_of_row hm
  have hst := Lib.hid h
  replace hqm := Lib.hid hqm
  replace hE := Lib.hid hE
  clear h hm
  go_enter Try.func25, Try.ntmps25
  go_wp2_with fail
  have hX0 := heap_alloc_new w (.cells #[.int .i64 0, .int .i64 0, .int .i64 0, .int .i64 0, .int .i64 0, .int .i64 0, .int .i64 0, .int .i64 0, .int .i64 0] 83)
  have hba := Lib.hid ((Below.refl w.heap.size w).alloc (Nat.le_refl _) (.cells #[.int .i64 0, .int .i64 0, .int .i64 0, .int .i64 0, .int .i64 0, .int .i64 0, .int .i64 0, .int .i64 0, .int .i64 0] 83))
  have hcn := Lib.hid (show CntAt (w.alloc (.cells #[.int .i64 0, .int .i64 0, .int .i64 0, .int .i64 0, .int .i64 0, .int .i64 0, .int .i64 0, .int .i64 0, .int .i64 0] 83)) w.heap.size E 0 from ⟨_, hX0, rfl, fun i hi => by
    have : i = 0 ∨ i = 1 ∨ i = 2 ∨ i = 3 ∨ i = 4 ∨ i = 5 ∨ i = 6 ∨ i = 7 ∨ i = 8 := by omega
    rcases this with rfl | rfl | rfl | rfl | rfl | rfl | rfl | rfl | rfl <;> rfl⟩)
  clear hX0
  generalize w.alloc (.cells #[.int .i64 0, .int .i64 0, .int .i64 0, .int .i64 0, .int .i64 0, .int .i64 0, .int .i64 0, .int .i64 0, .int .i64 0] 83) = wa at *
  have hst0 := Lib.hid (hst.out.keep hba.out)
  have hgl := Lib.hid (show ∀ j, j < E.length → ∃ g, am = some ⟨g, 0, none⟩ ∧ g < w.heap.size ∧ QuadAt w g (j * 4) (E.getD j d4) from fun j hj => by
    obtain ⟨g, h1, h2, _, h4⟩ := hqm.out j hj
    exact ⟨g, h1, h2, h4⟩)
  go_loopw [12] (fun i wr => ∃ k : Nat, k ≤ E.length ∧ i = .int .i64 k ∧ Hid (CntAt wr w.heap.size E k) ∧ Hid (StkAt wr B v E) ∧ Hid (Below w.heap.size w wr)) (fun i _ => E.length - (intOf i).toNat)
  case atStart => exact ⟨0, Nat.zero_le _, rfl, hcn, hst0, hba⟩
  case round =>
    obtain ⟨k, hk, rfl, hc, hst1, hbl⟩ := hrel
    clear hcn hst0 hba
    by_cases hlt : k < E.length
    · obtain ⟨g, rfl, hg, q⟩ := hgl.out k hlt
      have c0 := (hbl.out.cell (p := ⟨g, k * 4, none⟩) hg).trans q.c0
      have c1 := (hbl.out.cell (p := ⟨g, k * 4 + 1, none⟩) hg).trans q.c1
      have c2 := (hbl.out.cell (p := ⟨g, k * 4 + 2, none⟩) hg).trans q.c2
      have c3 := (hbl.out.cell (p := ⟨g, k * 4 + 3, none⟩) hg).trans q.c3
      have hlt' : (k : Int) < E.length := by omega
      have C21 := Lib.hid (seen_any hst1.out hlt)
      have C22 : Hid (∀ w', StkAt w' B v E → Calls Try.prog 22 #[.pointer (some ⟨B, 0, none⟩), .int .i64 k] w' fun e w'' => e = .returned (.int .i64 (E.getD k d4).1) ∧ w'' = w') := Lib.hid fun w' h => place_any h hlt
      have C47 : Hid (∀ w', StkAt w' B v E → Calls Try.prog 47 #[.pointer (some ⟨B, 0, none⟩), .int .i64 k] w' fun e w'' => e = .returned (.int .i64 (E.getD k d4).2.1) ∧ w'' = w') := Lib.hid fun w' h => sku_any h hlt
      have hp0 := hE.out k hlt
      have hnx := Lib.hid (fun (wz : World) (i0 : Nat) (hc : CntAt wz w.heap.size E k) (hi : i0 < 9) (hp : (E.getD k d4).1 = (i0 : Int)) => hc.next hlt hi hp)
      have htb := Lib.hid (fun p => totalP_bounds p (E.take k))
      have hlk := List.length_take_le k E
      clear q
      generalize E.getD k d4 = p at *
      obtain ⟨p0, p1, p2, p3⟩ := p
      simp only at c0 c1 c2 c3 hp0 C21 C22 C47 hnx
      obtain ⟨i0, rfl⟩ : ∃ i0 : Nat, p0 = i0 := ⟨p0.toNat, by omega⟩
      have hi9 : i0 < 9 := by omega
      go_wp2_with fail
      refine C21.out.mono ?_
      rintro e w4 ⟨rfl, q, rfl⟩
      have hst4 := Lib.hid (hst1.out.keep (below_dn _ wr q))
      have hbl4 := Lib.hid (hbl.out.trans (below_dn _ wr q))
      have hc4 := Lib.hid (hc.out.block ((below_dn (wr.heap.size) wr q).block w.heap.size hc.out.lt))
      have d0 : (wr.drewN q).cell? ⟨g, k * 4, none⟩ = some (.int .i64 i0) := c0
      have d1 : (wr.drewN q).cell? ⟨g, k * 4 + 1, none⟩ = some (.int .i64 p1) := c1
      have d2 : (wr.drewN q).cell? ⟨g, k * 4 + 2, none⟩ = some (.bool p2) := c2
      have d3 : (wr.drewN q).cell? ⟨g, k * 4 + 3, none⟩ = some (.bool p3) := c3
      clear c0 c1 c2 c3 hc hst1 hbl
      generalize wr.drewN q = wq at *
      go_wp2_with fail
      go_quiet (first
        | (go_at_call 22; refine Calls.quiet_of_same (C22.out _ (hst4.out.keep (below_dn _ _ _))))
        | (go_at_call 47; refine Calls.quiet_of_same (C47.out _ (hst4.out.keep (below_dn _ _ _)))))
      have hst5 := Lib.hid (hst4.out.keep (below_dn _ wq nq))
      have hbl5 := Lib.hid (hbl4.out.trans (below_dn _ wq nq))
      have hc5 := Lib.hid (hc4.out.block ((below_dn (wq.heap.size) wq nq).block w.heap.size hc4.out.lt))
      have e0 : (wq.drewN nq).cell? ⟨g, k * 4, none⟩ = some (.int .i64 i0) := d0
      clear d0 d1 d2 d3 hst4 hbl4 hc4
      generalize wq.drewN nq = wz at *
      obtain ⟨ex, fx⟩ := hc5.out.cell hi9
      have ht := htb.out i0
      have hw1 : wrap64 (total (fPl i0) (E.take k) + 1) = total (fPl i0) (E.take k) + 1 := by unfold wrap64; omega
      have hfin := Lib.hid (hnx.out wz i0 hc5.out hi9 rfl)
      have hX := Lib.hid hc5.out.lt
      clear ht
      generalize total (fPl i0) (E.take k) = T at *
      generalize hXe : w.heap.size = X at *
      have hi9' : (i0 : Int) < 9 := by omega
      go_wp2_with fail
      have hfb := hbl5.out.setCell (p := ⟨X, i0, none⟩) (Nat.le_refl _) (.int .i64 (T + 1))
      have hfs := Lib.hid (hst.out.keep (hXe.symm ▸ hfb))
      replace hfb := Lib.hid hfb
      subst hXe
      go_roundw
      case rel => exact ⟨k + 1, by omega, by go_num, hfin, hfs, hfb⟩
      case measure => simp [intOf]; omega
    · obtain rfl : k = E.length := by omega
      have hlt' : ¬ (E.length : Int) < E.length := by omega
      have hz9 := Lib.hid (total_none E (fun j hj => (hE.out j hj).2))
      have C20 : Hid (∀ (w' : World) (p : Int), Below w.heap.size w w' → Calls Try.prog 20 #[.pointer (some ⟨B, 0, none⟩), .int .i64 p] w' fun e w'' => e = .returned (.int .i64 (total (fPl p) E)) ∧ Below w'.heap.size w' w'') := Lib.hid fun w' p h => count_any (hst.out.keep h) p
      have C22 : Hid (∀ w', Below w.heap.size w w' → Calls Try.prog 22 #[.pointer (some ⟨B, 0, none⟩), .int .i64 (-1)] w' fun e w'' => e = .returned (.int .i64 (-1)) ∧ w'' = w') := Lib.hid fun w' h => place_out (hst.out.keep h) (by simp [inR])
      have C47 : Hid (∀ w', Below w.heap.size w w' → Calls Try.prog 47 #[.pointer (some ⟨B, 0, none⟩), .int .i64 E.length] w' fun e w'' => e = .returned (.int .i64 (-1)) ∧ w'' = w') := Lib.hid fun w' h => sku_out (hst.out.keep h) (by simp [inR])
      have C48 : Hid (∀ w', Below w.heap.size w w' → Calls Try.prog 48 #[.pointer (some ⟨B, 0, none⟩)] w' fun e w'' => e = .returned (.int .i64 E.length) ∧ w'' = w') := Lib.hid fun w' h => slen_any (hst.out.keep h)
      clear hst1
      generalize wr = wn at *
      go_wp2_with fail
      go_loopw [69] (fun i w3 => ∃ kk : Nat, kk ≤ 9 ∧ i = .int .i64 kk ∧ Hid (CntAt w3 w.heap.size E E.length) ∧ Hid (Below w.heap.size w w3)) (fun i _ => 9 - (intOf i).toNat)
      case atStart => exact ⟨0, Nat.zero_le _, rfl, hc, hbl⟩
      case round =>
        obtain ⟨kk, hkk, rfl, hc3, hbl3⟩ := hrel
        by_cases h9 : kk < 9
        · have h9' : (kk : Int) < 9 := by omega
          obtain ⟨ex, _⟩ := hc3.out.cell h9
          rw [List.take_length] at ex
          have hXl := hc3.out.lt
          have hws := hbl3.out.size
          have D20 := Lib.hid (C20.out wr.drew kk hbl3.out.drew)
          have KS : Hid (∀ w', Below wr.heap.size wr w' → w'.cell? ⟨w.heap.size, kk, none⟩ = some (.int .i64 (total (fPl kk) E))) := Lib.hid fun w' hq => (hq.cell (p := ⟨w.heap.size, kk, none⟩) hXl).trans ex
          have hcx := Lib.hid (fun w' (hq : Below wr.heap.size wr w') => show CntAt w' w.heap.size E E.length ∧ Below w.heap.size w w' from ⟨hc3.out.block (hq.block _ hXl), hbl3.out.trans (hq.mono hws)⟩)
          generalize total (fPl kk) E = T at *
          go_wp2_with fail
          go_region_held3 (fun w' => w'.cell? ⟨w.heap.size, kk, none⟩ = some (.int .i64 T))
            (first
              | exact KS.out _ (Below.refl _ _).drew
              | exact KS.out _ hb6
              | go_keep)
            ((go_at_call 20; refine D20.out.mono ?_; rintro e w5 ⟨rfl, hb5⟩; have hb6 : Below wr.heap.size wr w5 := (Below.refl _ _).drew.trans hb5))
          all_goals
            have hx := hcx.out _ hb6
            have hx1 := Lib.hid hx.1
            have hx2 := Lib.hid hx.2
            clear hx
            go_wp2_with fail
            go_roundw
            case rel => exact ⟨kk + 1, by omega, by go_num, hx1, hx2⟩
            case measure => simp [intOf]; omega
        · obtain rfl : kk = 9 := by omega
          go_wp2_with fail
          refine (C48.out _ hbl3.out).mono ?_
          rintro e w4 ⟨rfl, rfl⟩
          go_wp2_with fail
          refine (C22.out _ hbl3.out).mono ?_
          rintro e w5 ⟨rfl, rfl⟩
          go_wp2_with fail
          refine (C47.out _ hbl3.out).mono ?_
          rintro e w6 ⟨rfl, rfl⟩
          go_wp2_with fail
          refine (C20.out _ 9 hbl3.out).mono ?_
          rintro e w7 ⟨rfl, hb7⟩
          rw [hz9.out]
          go_wp2_with fail
          go_ret
          exact ⟨rfl, hbl3.out.trans (hb7.mono hbl3.out.size)⟩

end Go.Proofs.Ytmdkclgmibjlfaa.Ba
