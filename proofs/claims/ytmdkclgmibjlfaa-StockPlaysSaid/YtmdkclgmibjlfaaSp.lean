/- The stock: moved and picked, with what turns said more sharply; the document's move. -/
import Derived.Test.YtmdkclgmibjlfaaSn
import Derived.Test.YtmdkclgmibjlfaaSx
import Derived.Maps.AppendAt
set_option linter.unusedVariables false
set_option linter.unusedSimpArgs false
namespace Go.Proofs.Ytmdkclgmibjlfaa.Ba
open Go.RowKit Go.Maps Go.Proofs.Ytmdkclgmibjlfaa.Mx Go.Proofs.Ytmdkclgmibjlfaa.Lib

theorem grown_below {w w' : World} (hb : Below w.heap.size w w') (row : Option Nat) : w.grownBy w' row := ⟨hb.os, hb.tape, hb.output, hb.size, fun k hk _ => hb.block k hk⟩
theorem grown_set (w : World) (g i : Nat) (u : Value) : w.grownBy (w.setCell ⟨g, i, none⟩ u) (some g) := ⟨rfl, rfl, rfl, by simp, fun k hk hne => heap_setCell_other w ⟨g, i, none⟩ k u (fun e => hne (by rw [e]))⟩
theorem below_grown {w w' : World} {base : Nat} {v : Value} (hg : w.grownBy w' v.ownBlock) (hv : ∀ g, v.ownBlock = some g → base ≤ g) (hw : base ≤ w.heap.size) : Below base w w' :=
  ⟨hg.os, hg.tape, hg.output, hg.size, fun k hk => hg.block k (by omega) (fun e => by have := hv k e.symm; omega)⟩

set_option maxHeartbeats 1600000 in
theorem move_any2 {w : World} {B : Nat} {v : Value} {E : Units} (h : StkAt w B v E) {j : Nat} (hj : j < E.length) (t : Int) {Y : Bool} (hY : Hid (mayS (E.getD j d4).1 t = Y)) :
    Calls Try.prog 19 #[.pointer (some ⟨B, 0, none⟩), .int .i64 j, .int .i64 t] w fun e w' => e = .returned (.int .i64 (if Y then 0 else 8)) ∧ StkAt w' B v (if Y then E.set j (moved (E.getD j d4) t) else E) ∧ Below (B + 1) w w' ∧ w.grownBy w' v.ownBlock := by
  obtain ⟨a, c, hv, hb, hq⟩ := h.opn
  obtain ⟨g, rfl, hg, hBg, q⟩ := hq j hj
  subst hv
  have cB : w.cell? ⟨B, 0, none⟩ = some (.slice (some ⟨g, 0, none⟩) E.length c) := by simp [World.cell?, h.box]
  have H46 := Lib.hid (has_any h j (Y := true) (Lib.hid (inR_nat hj)))
  have H15 := Lib.hid (may_any (E.getD j d4).1 t w)
  have hj' : (j : Int) < E.length := by omega
  have hBl := h.lt
  have hEl : E.length ≤ 9223372036854775807 := hb
  obtain ⟨p, hp⟩ : ∃ p, E.getD j d4 = p := ⟨_, rfl⟩
  rw [hp] at q H15 hY ⊢
  rw [hY.out] at H15
  obtain ⟨p0, p1, p2, p3⟩ := p
  obtain ⟨c0, c1, c2, c3, fr⟩ := q
  simp only at c0 c1 c2 c3 H15
  have hst := Lib.hid h
  replace hp := Lib.hid hp
  clear h
  clear hq hY
  cases Y
  · go_enter Try.func19, Try.ntmps19
    go_wp2_with fail
    refine H46.out.mono ?_
    rintro e w1 ⟨rfl, rfl⟩
    go_wp2_with fail
    refine H15.out.mono ?_
    rintro e w1 ⟨rfl, hb1⟩
    have hb1 := Lib.hid hb1
    go_wp2_with fail
    go_ret
    exact ⟨by simp, hst.out.keep hb1.out, hb1.out.mono (by omega), grown_below hb1.out _⟩
  · cases p2 <;> cases p3
    all_goals
      go_enter Try.func19, Try.ntmps19
      go_wp2_with fail
      refine H46.out.mono ?_
      rintro e w1 ⟨rfl, rfl⟩
      go_wp2_with fail
      refine H15.out.mono ?_
      rintro e w2 ⟨rfl, hb1⟩
      have e0 := (hb1.cell (p := ⟨g, j * 4, none⟩) hg).trans c0
      have e1 := (hb1.cell (p := ⟨g, j * 4 + 1, none⟩) hg).trans c1
      have e2 := (hb1.cell (p := ⟨g, j * 4 + 2, none⟩) hg).trans c2
      have e3 := (hb1.cell (p := ⟨g, j * 4 + 3, none⟩) hg).trans c3
      have f2 := fun i => (hb1.frozen (p := ⟨g, i, none⟩) hg).trans (fr i)
      have h2 := Lib.hid (hst.out.keep hb1)
      have hb1 := Lib.hid hb1
      clear c0 c1 c2 c3 fr
      go_wp2_with fail
      all_goals
        go_ret
        have hm := fun x y hx hy => stk_moved h2.out hj hBg hp.out t x y hx hy
        refine ⟨rfl, (hm _ _ ?_ ?_).1, (hb1.out.mono (by omega)).trans (hm _ _ ?_ ?_).2, (grown_below hb1.out _).trans (((grown_set _ g _ _).trans (grown_set _ g _ _)).trans (grown_set _ g _ _))⟩
        all_goals simp_all

/-- What Pick leaves. -/
def pickPost2 (w : World) (B : Nat) (v : Value) (E : Units) (pk : Option Nat) (e : Ending) (w' : World) : Prop :=
  (match pk with
   | none => e = .returned (.tuple #[.int .i64 0, .int .i64 14]) ∧ StkAt w' B v E
   | some j => e = .returned (.tuple #[.int .i64 j, .int .i64 0]) ∧ StkAt w' B v (E.set j (picked (E.getD j d4)))) ∧ Below (B + 1) w w' ∧ w.grownBy w' v.ownBlock

set_option maxRecDepth 100000 in
set_option maxHeartbeats 1600000 in
theorem pick_any2 {w : World} {B : Nat} {v : Value} {E : Units} (h : StkAt w B v E) (sku : Int) {pk : Option Nat} (hpk : Hid (Picks E sku pk)) : Calls Try.prog 18 #[.pointer (some ⟨B, 0, none⟩), .int .i64 sku] w fun e w' => pickPost2 w B v E pk e w' := by
  obtain ⟨a, c, hv, hb, hq⟩ := h.opn
  have hst := Lib.hid h
  have hBl := h.lt
  have hbx := h.box
  rw [hv] at hbx
  have cB : w.cell? ⟨B, 0, none⟩ = some (.slice a E.length c) := by simp [World.cell?, hbx]
  replace hv := Lib.hid hv
  have hq := Lib.hid hq
  have hEl : E.length ≤ 9223372036854775807 := hb
  clear h hbx
  go_enter Try.func18, Try.ntmps18
  go_wp2_with fail
  go_loopw [15] (fun i wr => ∃ k : Nat, k ≤ E.length ∧ i = .int .i64 k ∧ Hid (∀ j, j < k → ¬ ((E.getD j d4).1 = 3 ∧ (E.getD j d4).2.1 = sku)) ∧ Hid (Below w.heap.size w wr)) (fun i _ => E.length - (intOf i).toNat)
  case atStart => exact ⟨0, Nat.zero_le _, rfl, Lib.hid (fun j hj => absurd hj (by omega)), Lib.hid (Below.refl _ _)⟩
  case round =>
    obtain ⟨k, hk, rfl, hno, hbl⟩ := hrel
    by_cases hlt : k < E.length
    · obtain ⟨g, rfl, hg, hBg, q⟩ := hq.out k hlt
      have c0 := (hbl.out.cell (p := ⟨g, k * 4, none⟩) hg).trans q.c0
      have c1 := (hbl.out.cell (p := ⟨g, k * 4 + 1, none⟩) hg).trans q.c1
      have c2 := (hbl.out.cell (p := ⟨g, k * 4 + 2, none⟩) hg).trans q.c2
      have c3 := (hbl.out.cell (p := ⟨g, k * 4 + 3, none⟩) hg).trans q.c3
      have f0 := (hbl.out.frozen (p := ⟨g, k * 4, none⟩) hg).trans (q.fr (k * 4))
      have cBr := (hbl.out.cell (p := ⟨B, 0, none⟩) hBl).trans cB
      have hlt' : (k : Int) < E.length := by omega
      have hbls := hbl.out.size
      have hmiss := Lib.hid (fun (h : ¬ ((E.getD k d4).1 = 3 ∧ (E.getD k d4).2.1 = sku)) => show ∀ j, j < k + 1 → ¬ ((E.getD j d4).1 = 3 ∧ (E.getD j d4).2.1 = sku) from fun j hj => by
        by_cases e : j = k
        · rw [e]; exact h
        · exact hno.out j (by omega))
      have hhit := Lib.hid (fun (h : (E.getD k d4).1 = 3 ∧ (E.getD k d4).2.1 = sku) => show pk = some k from by
        have hp := hpk.out
        cases pk with
        | none => exact absurd h (hp k hlt)
        | some j =>
          obtain ⟨h1, h2, h3, h4⟩ := hp
          rcases Nat.lt_trichotomy j k with hjk | hjk | hjk
          · exact absurd ⟨h2, h3⟩ (hno.out j hjk)
          · rw [hjk]
          · exact absurd h (h4 k hjk))
      clear q
      obtain ⟨p, hp⟩ : ∃ p, E.getD k d4 = p := ⟨_, rfl⟩
      rw [hp] at c0 c1 c2 c3 hmiss hhit
      obtain ⟨p0, p1, p2, p3⟩ := p
      simp only at c0 c1 c2 c3 hmiss hhit
      have hp := Lib.hid hp
      cases m0 : (p0 == 3)
      · have hm := Lib.hid (hmiss.out (fun h => by simp [h.1] at m0))
        go_wp2_with fail
        go_roundw
        case rel => exact ⟨k + 1, by omega, by go_num, hm, Lib.hid (hbl.out.alloc (by omega) _)⟩
        case measure => simp [intOf]; omega
      · cases m1 : (p1 == sku)
        · have hm := Lib.hid (hmiss.out (fun h => by simp [h.2] at m1))
          go_wp2_with fail
          go_roundw
          case rel => exact ⟨k + 1, by omega, by go_num, hm, Lib.hid (hbl.out.alloc (by omega) _)⟩
          case measure => simp [intOf]; omega
        · have hh := Lib.hid (hhit.out ⟨by simpa using m0, by simpa using m1⟩)
          go_upto_region 7 with fail
          have hba := Lib.hid ((Below.refl wr.heap.size wr).alloc (Nat.le_refl _) (.cells #[.int .i64 p0, .int .i64 p1, .bool p2, .bool p3] 80))
          have d0 := (hba.out.cell (p := ⟨B, 0, none⟩) (by show B < _; omega)).trans cBr
          have d1 := (hba.out.cell (p := ⟨g, k * 4, none⟩) (by show g < _; omega)).trans c0
          have d2 := (hba.out.frozen (p := ⟨g, k * 4, none⟩) (by show g < _; omega)).trans f0
          have hbl2 := Lib.hid (hbl.out.trans (hba.out.mono hbls))
          clear c0 c1 c2 c3 f0 cBr hba
          generalize wr.alloc (.cells #[.int .i64 p0, .int .i64 p1, .bool p2, .bool p3] 80) = wx at *
          go_wp2_with fail
          go_ret2
          have hh := hh.out
          subst hh
          have hvv := hv.out
          subst hvv
          refine ⟨⟨by simp, ?_⟩, ?_⟩
          · rw [hp.out]
            exact stk_picked (hst.out.keep hbl2.out) hlt hBg hp.out
          · exact ⟨(hbl2.out.mono (by omega)).setCell (p := ⟨g, k * 4, none⟩) (by show B + 1 ≤ g; omega) _, (grown_below hbl2.out _).trans (grown_set _ g _ _)⟩
    · obtain rfl : k = E.length := by omega
      have hlt' : ¬ (E.length : Int) < E.length := by omega
      go_wp2_with fail
      go_ret2
      cases pk with
      | none => exact ⟨⟨rfl, hst.out.keep hbl.out⟩, hbl.out.mono (by omega), grown_below hbl.out _⟩
      | some j =>
        obtain ⟨h1, h2, h3, h4⟩ := hpk.out
        exact absurd ⟨h2, h3⟩ (hno.out j h1)


theorem ret_moved {w : World} {g : Nat} {cs : Array Value} {t : TypeId} {v : Value} {tmps : Array Value} (hg : w.heap[g]? = some (.cells cs t (0, 0))) (hs : cs.size = 4) (h4 : tmps.getD 4 undef = .pointer (some ⟨g, 0, none⟩)) (h5 : tmps.getD 5 undef = v) :
    (results Try.f24 tmps).run Try.prog w = .ok (.tuple #[.agg cs, v]) w := by
  have h4' : tmps[4]?.getD undef = .pointer (some ⟨g, 0, none⟩) := by simpa using h4
  have h5' : tmps[5]?.getD undef = v := by simpa using h5
  rw [results_cell_tmp (p := 4) (u := 5) (ty := 43) rfl]
  have hi : (Try.prog.info? 43).map (·.size) = some cs.size := by rw [hs]; kernel_rfl
  simp [h4', h5', asAddr, run_loadVar_row w g t 43 cs (0, 0) _ hg Try.underlying43 rfl hi, Result.andThen]

set_option maxRecDepth 100000 in
theorem refmoved_any (p0 p1 : Int) (p2 p3 : Bool) (t : Int) (w : World) {Y : Bool} (hY : Hid (mayS p0 t = Y)) :
    Calls Try.prog 24 #[.agg #[.int .i64 p0, .int .i64 p1, .bool p2, .bool p3], .int .i64 t] w fun e w' => (e = .returned (.tuple #[.agg (if Y then #[.int .i64 t, .int .i64 p1, .bool (p2 || t == 2), .bool (p3 || p0 == 2)] else #[.int .i64 p0, .int .i64 p1, .bool p2, .bool p3]), .bool Y])) ∧ Below w.heap.size w w' := by
  have H16 : Hid (∀ w', Calls Try.prog 16 #[.int .i64 p0, .int .i64 t] w' fun e w'' => e = .returned (.bool Y) ∧ w'' = w') := Lib.hid fun w' => by rw [← hY.out]; exact refmay_any p0 t w'
  clear hY
  cases Y
  · go_enter Try.func24, Try.ntmps24
    go_wp2_with fail
    refine (H16.out _).mono ?_
    rintro e w1 ⟨rfl, rfl⟩
    go_wp2_with fail
    refine bodyPost_ret (ret_moved (heap_alloc2_new _ _ _) rfl rfl rfl) rfl ⟨rfl, ?_⟩
    exact ((Below.refl _ _).alloc (Nat.le_refl _) _).alloc (by simp) _
  · cases q1 : (t == 2) <;> cases q2 : (p0 == 2)
    all_goals
      go_enter Try.func24, Try.ntmps24
      go_wp2_with fail
      refine (H16.out _).mono ?_
      rintro e w1 ⟨rfl, rfl⟩
      go_wp2_with fail
      all_goals
        refine bodyPost_ret (ret_moved (heap_alloc2_new _ _ _) rfl rfl rfl) rfl ⟨by first | rfl | simp_all, ?_⟩
        exact ((Below.refl _ _).alloc (Nat.le_refl _) _).alloc (by simp) _

end Go.Proofs.Ytmdkclgmibjlfaa.Ba
