/- A stock whose units lie anywhere behind b0: cloned, moved, picked: what lies before b0 stays. -/
import Derived.Test.YtmdkclgmibjlfaaSn
import Derived.Lib.SliceRun
set_option linter.unusedVariables false
set_option linter.unusedSimpArgs false
namespace Go.Proofs.Ytmdkclgmibjlfaa.Ba
open Go.RowKit Go.Maps Go.Proofs.Ytmdkclgmibjlfaa.Mx Go.Proofs.Ytmdkclgmibjlfaa.Lib

structure StkG (w : World) (b0 B : Nat) (v : Value) (E : Units) : Prop where
  box : w.heap[B]? = some (.cells #[v] 78 (0, 0))
  row : w.ownsRow b0 80 4 v E.length (cells4 E)
  apart : v.ownBlock ≠ some B
  lo : b0 ≤ B

theorem StkG.lt {w : World} {b0 B : Nat} {v : Value} {E : Units} (h : StkG w b0 B v E) : B < w.heap.size := (Array.getElem?_eq_some_iff.1 h.box).1
theorem StkG.keep {w w' : World} {b0 B : Nat} {v : Value} {E : Units} (h : StkG w b0 B v E) (hb : Below w.heap.size w w') : StkG w' b0 B v E :=
  ⟨(hb.block B h.lt).trans h.box, owns_keep h.row hb, h.apart, h.lo⟩

theorem StkG.opn {w : World} {b0 B : Nat} {v : Value} {E : Units} (h : StkG w b0 B v E) :
    ∃ a c, v = .slice a E.length c ∧ E.length ≤ 9223372036854775807 ∧ (∀ j, j < E.length → ∃ g, a = some ⟨g, 0, none⟩ ∧ g < w.heap.size ∧ b0 ≤ g ∧ g ≠ B ∧ QuadAt w g (j * 4) (E.getD j d4)) := by
  obtain ⟨a, c, rfl, h1, h2⟩ := quads_of_row h.row
  refine ⟨a, c, rfl, h1, fun j hj => ?_⟩
  obtain ⟨g, rfl, h3, h4, h5⟩ := h2 j hj
  exact ⟨g, rfl, h3, h4, fun e => h.apart (by rw [← e]; rfl), h5⟩

theorem ghas_any {w : World} {b0 B : Nat} {v : Value} {E : Units} (h : StkG w b0 B v E) (n : Int) {Y : Bool} (hY : Hid (inR E n = Y)) : Calls Try.prog 46 #[.pointer (some ⟨B, 0, none⟩), .int .i64 n] w fun e w' => e = .returned (.bool Y) ∧ w' = w := by
  obtain ⟨a, c, rfl, hb, _⟩ := h.opn
  have cB : w.cell? ⟨B, 0, none⟩ = some (.slice a E.length c) := by simp [World.cell?, h.box]
  by_cases h0 : 0 ≤ n
  · by_cases h1 : n < E.length
    · have := hY.out
      simp [inR, h0, h1] at this
      subst this
      clear hY
      go_enter Try.func46, Try.ntmps46
      go_wp2_with fail
      go_ret
      exact ⟨rfl, rfl⟩
    · have := hY.out
      simp only [inR, h0, h1, decide_true, decide_false, Bool.and_false] at this
      subst this
      clear hY
      go_enter Try.func46, Try.ntmps46
      go_wp2_with fail
      go_ret
      exact ⟨rfl, rfl⟩
  · have := hY.out
    simp only [inR, h0, decide_false, Bool.false_and] at this
    subst this
    clear hY
    go_enter Try.func46, Try.ntmps46
    go_wp2_with fail
    go_ret
    exact ⟨rfl, rfl⟩

theorem gmove_out {w : World} {b0 B : Nat} {v : Value} {E : Units} (h : StkG w b0 B v E) {n : Int} (hn : inR E n = false) (t : Int) : Calls Try.prog 19 #[.pointer (some ⟨B, 0, none⟩), .int .i64 n, .int .i64 t] w fun e w' => e = .returned (.int .i64 7) ∧ w' = w := by
  have H46 := Lib.hid (ghas_any h n (Y := false) (Lib.hid hn))
  go_enter Try.func19, Try.ntmps19
  go_wp2_with fail
  refine H46.out.mono ?_
  rintro e w1 ⟨rfl, rfl⟩
  go_wp2_with fail
  go_ret
  exact ⟨rfl, rfl⟩

theorem stkg_set {w : World} {b0 B g c : Nat} {E : Units} (h : StkG w b0 B (.slice (some ⟨g, 0, none⟩) E.length c) E) {xs : List Value} {w' : World} (hb : Below b0 w w') (hB : w'.heap[B]? = w.heap[B]?) {E' : Units} (hE : E'.length = E.length)
    (hr : w'.ownsRow b0 80 4 (.slice (some ⟨g, 0, none⟩) E.length c) E.length (cells4 E')) : StkG w' b0 B (.slice (some ⟨g, 0, none⟩) E.length c) E' :=
  ⟨hB.trans h.box, by rw [hE]; exact hr, h.apart, h.lo⟩

theorem stkg_moved {w : World} {b0 B g c j : Nat} {E : Units} {p0 p1 : Int} {p2 p3 : Bool} (h : StkG w b0 B (.slice (some ⟨g, 0, none⟩) E.length c) E) (hj : j < E.length) (hBg : b0 ≤ g) (hgB : g ≠ B) (hp : E.getD j d4 = (p0, p1, p2, p3)) (t : Int) (x y : Bool) :
    (∃ E', StkG (((w.setCell ⟨g, j * 4 + 2, none⟩ (.bool x)).setCell ⟨g, j * 4 + 3, none⟩ (.bool y)).setCell ⟨g, j * 4, none⟩ (.int .i64 t)) b0 B (.slice (some ⟨g, 0, none⟩) E.length c) E' ∧ E'.length = E.length) ∧
      Below b0 w (((w.setCell ⟨g, j * 4 + 2, none⟩ (.bool x)).setCell ⟨g, j * 4 + 3, none⟩ (.bool y)).setCell ⟨g, j * 4, none⟩ (.int .i64 t)) := by
  have r1 := (h.row.stored (j * 4 + 2) (.bool x)).1
  have r2 := (r1.stored (j * 4 + 3) (.bool y)).1
  have r3 := (r2.stored (j * 4) (.int .i64 t)).1
  have hb : Below b0 w (((w.setCell ⟨g, j * 4 + 2, none⟩ (.bool x)).setCell ⟨g, j * 4 + 3, none⟩ (.bool y)).setCell ⟨g, j * 4, none⟩ (.int .i64 t)) :=
    (((Below.refl _ _).setCell (p := ⟨g, j * 4 + 2, none⟩) hBg _).setCell (p := ⟨g, j * 4 + 3, none⟩) hBg _).setCell (p := ⟨g, j * 4, none⟩) hBg _
  have hB : (((w.setCell ⟨g, j * 4 + 2, none⟩ (.bool x)).setCell ⟨g, j * 4 + 3, none⟩ (.bool y)).setCell ⟨g, j * 4, none⟩ (.int .i64 t)).heap[B]? = w.heap[B]? :=
    (heap_setCell_other _ ⟨g, j * 4, none⟩ B _ (fun e => hgB e.symm)).trans ((heap_setCell_other _ ⟨g, j * 4 + 3, none⟩ B _ (fun e => hgB e.symm)).trans (heap_setCell_other _ ⟨g, j * 4 + 2, none⟩ B _ (fun e => hgB e.symm)))
  have h1 := (cells4_at E j hj).2.1
  rw [hp] at h1
  rw [set_quad h1] at r3
  refine ⟨⟨E.set j (t, p1, x, y), stkg_set (xs := []) h hb hB (by simp) ?_, by simp⟩, hb⟩
  rw [cells4_set E j _ hj]
  exact r3

theorem stkg_picked {w : World} {b0 B g c j : Nat} {E : Units} {p0 p1 : Int} {p2 p3 : Bool} (h : StkG w b0 B (.slice (some ⟨g, 0, none⟩) E.length c) E) (hj : j < E.length) (hBg : b0 ≤ g) (hgB : g ≠ B) (hp : E.getD j d4 = (p0, p1, p2, p3)) :
    (∃ E', StkG (w.setCell ⟨g, j * 4, none⟩ (.int .i64 7)) b0 B (.slice (some ⟨g, 0, none⟩) E.length c) E' ∧ E'.length = E.length) ∧ Below b0 w (w.setCell ⟨g, j * 4, none⟩ (.int .i64 7)) := by
  have r3 := (h.row.stored (j * 4) (.int .i64 7)).1
  have hb : Below b0 w (w.setCell ⟨g, j * 4, none⟩ (.int .i64 7)) := (Below.refl _ _).setCell (p := ⟨g, j * 4, none⟩) hBg _
  have hB : (w.setCell ⟨g, j * 4, none⟩ (.int .i64 7)).heap[B]? = w.heap[B]? := heap_setCell_other _ ⟨g, j * 4, none⟩ B _ (fun e => hgB e.symm)
  have h1 := cells4_at E j hj
  rw [hp] at h1
  refine ⟨⟨E.set j (7, p1, p2, p3), stkg_set (xs := []) h hb hB (by simp) ?_, by simp⟩, hb⟩
  rw [cells4_set E j _ hj]
  have e : ((((cells4 E).set (j * 4) (.int .i64 7)).set (j * 4 + 1) (.int .i64 p1)).set (j * 4 + 2) (.bool p2)).set (j * 4 + 3) (.bool p3) = (cells4 E).set (j * 4) (.int .i64 7) := by
    obtain ⟨_, h2, h3, h4⟩ := h1
    apply List.ext_getElem?
    intro i
    obtain ⟨l2, g2⟩ := (List.getElem?_eq_some_iff.1 h2)
    obtain ⟨l3, g3⟩ := (List.getElem?_eq_some_iff.1 h3)
    obtain ⟨l4, g4⟩ := (List.getElem?_eq_some_iff.1 h4)
    simp only [List.getElem?_set, List.length_set]
    by_cases a3 : j * 4 + 3 = i
    · subst a3; simp [l4, g4]
    · by_cases a2 : j * 4 + 2 = i
      · subst a2; simp [l3, g3]
      · by_cases a1 : j * 4 + 1 = i
        · subst a1; simp [l2, g2]
        · simp [a1, a2, a3]
  rw [e]
  exact r3

/-- What an act leaves of a clone. -/
def gPost (w : World) (b0 B : Nat) (v : Value) (n : Nat) (w' : World) : Prop := (∃ E', StkG w' b0 B v E' ∧ E'.length = n) ∧ Below b0 w w'

set_option maxHeartbeats 1600000 in
theorem gmove_in {w : World} {b0 B : Nat} {v : Value} {E : Units} (h : StkG w b0 B v E) {j : Nat} (hj : j < E.length) (t : Int) :
    Calls Try.prog 19 #[.pointer (some ⟨B, 0, none⟩), .int .i64 j, .int .i64 t] w fun e w' => (∃ a, e = .returned (.int .i64 a)) ∧ gPost w b0 B v E.length w' := by
  obtain ⟨a, c, hv, hb, hq⟩ := h.opn
  obtain ⟨g, rfl, hg, hBg, hgB, q⟩ := hq j hj
  subst hv
  have cB : w.cell? ⟨B, 0, none⟩ = some (.slice (some ⟨g, 0, none⟩) E.length c) := by simp [World.cell?, h.box]
  have H46 := Lib.hid (ghas_any h j (Y := true) (Lib.hid (inR_nat hj)))
  have H15 := Lib.hid (may_any (E.getD j d4).1 t w)
  have hj' : (j : Int) < E.length := by omega
  have hBl := h.lt
  have hlo := h.lo
  have hEl : E.length ≤ 9223372036854775807 := hb
  obtain ⟨p, hp⟩ : ∃ p, E.getD j d4 = p := ⟨_, rfl⟩
  rw [hp] at q H15
  obtain ⟨p0, p1, p2, p3⟩ := p
  obtain ⟨c0, c1, c2, c3, fr⟩ := q
  simp only at c0 c1 c2 c3 H15
  have hst := Lib.hid h
  replace hp := Lib.hid hp
  clear h hq
  generalize mayS p0 t = Y at *
  cases Y
  · go_enter Try.func19, Try.ntmps19
    go_wp2_with fail
    refine H46.out.mono ?_
    rintro e w1 ⟨rfl, rfl⟩
    go_wp2_with fail
    refine H15.out.mono ?_
    rintro e w1 ⟨rfl, hb1⟩
    have hpst : gPost _ b0 B (.slice (some ⟨g, 0, none⟩) E.length c) E.length w1 := ⟨⟨E, hst.out.keep hb1, rfl⟩, hb1.mono (by omega)⟩
    replace hpst := Lib.hid hpst
    clear hb1
    go_wp2_with fail
    go_ret
    exact ⟨⟨_, rfl⟩, hpst.out⟩
  · cases p2 <;> cases p3
    all_goals
      go_enter Try.func19, Try.ntmps19
      go_wp2_with fail
      refine H46.out.mono ?_
      rintro e w1 ⟨rfl, rfl⟩
      go_wp2_with fail
      refine H15.out.mono ?_
      rintro e w2 ⟨rfl, hb1⟩
      have e0 := (hb1.cell (p := ⟨g, j * 4, none⟩) hg).trans c0
      have e1 := (hb1.cell (p := ⟨g, j * 4 + 1, none⟩) hg).trans c1
      have e2 := (hb1.cell (p := ⟨g, j * 4 + 2, none⟩) hg).trans c2
      have e3 := (hb1.cell (p := ⟨g, j * 4 + 3, none⟩) hg).trans c3
      have f2 := fun i => (hb1.frozen (p := ⟨g, i, none⟩) hg).trans (fr i)
      have h2 := Lib.hid (hst.out.keep hb1)
      have hb1 := Lib.hid hb1
      clear c0 c1 c2 c3 fr
      go_wp2_with fail
      all_goals
        go_ret
        have hm := fun x y => stkg_moved h2.out hj hBg hgB hp.out t x y
        exact ⟨⟨_, rfl⟩, (hm _ _).1, (hb1.out.mono (by omega)).trans (hm _ _).2⟩

theorem gmove_any {w : World} {b0 B : Nat} {v : Value} {E : Units} (h : StkG w b0 B v E) (n t : Int) :
    Calls Try.prog 19 #[.pointer (some ⟨B, 0, none⟩), .int .i64 n, .int .i64 t] w fun e w' => (∃ a, e = .returned (.int .i64 a)) ∧ gPost w b0 B v E.length w' := by
  by_cases hn : 0 ≤ n ∧ n < E.length
  · obtain ⟨j, rfl⟩ : ∃ j : Nat, n = j := ⟨n.toNat, by omega⟩
    exact gmove_in h (by omega) t
  · refine (gmove_out h (n := n) (by simp only [inR]; cases h1 : decide (0 ≤ n) <;> simp_all) t).mono ?_
    rintro e w' ⟨h0, rfl⟩
    exact ⟨⟨_, h0⟩, ⟨E, h, rfl⟩, Below.refl _ _⟩

set_option maxRecDepth 100000 in
set_option maxHeartbeats 1600000 in
theorem gpick_any {w : World} {b0 B : Nat} {v : Value} {E : Units} (h : StkG w b0 B v E) (sku : Int) : Calls Try.prog 18 #[.pointer (some ⟨B, 0, none⟩), .int .i64 sku] w fun e w' => (∃ a b, e = .returned (.tuple #[.int .i64 a, .int .i64 b])) ∧ gPost w b0 B v E.length w' := by
  obtain ⟨a, c, hv, hb, hq⟩ := h.opn
  have hst := Lib.hid h
  have hBl := h.lt
  have hlo := h.lo
  have hbx := h.box
  rw [hv] at hbx
  have cB : w.cell? ⟨B, 0, none⟩ = some (.slice a E.length c) := by simp [World.cell?, hbx]
  replace hv := Lib.hid hv
  have hq := Lib.hid hq
  have hEl : E.length ≤ 9223372036854775807 := hb
  clear h hbx
  go_enter Try.func18, Try.ntmps18
  go_wp2_with fail
  go_loopw [15] (fun i wr => ∃ k : Nat, k ≤ E.length ∧ i = .int .i64 k ∧ Hid (Below w.heap.size w wr)) (fun i _ => E.length - (intOf i).toNat)
  case atStart => exact ⟨0, Nat.zero_le _, rfl, Lib.hid (Below.refl _ _)⟩
  case round =>
    obtain ⟨k, hk, rfl, hbl⟩ := hrel
    by_cases hlt : k < E.length
    · obtain ⟨g, rfl, hg, hBg, hgB, q⟩ := hq.out k hlt
      have c0 := (hbl.out.cell (p := ⟨g, k * 4, none⟩) hg).trans q.c0
      have c1 := (hbl.out.cell (p := ⟨g, k * 4 + 1, none⟩) hg).trans q.c1
      have c2 := (hbl.out.cell (p := ⟨g, k * 4 + 2, none⟩) hg).trans q.c2
      have c3 := (hbl.out.cell (p := ⟨g, k * 4 + 3, none⟩) hg).trans q.c3
      have f0 := (hbl.out.frozen (p := ⟨g, k * 4, none⟩) hg).trans (q.fr (k * 4))
      have cBr := (hbl.out.cell (p := ⟨B, 0, none⟩) hBl).trans cB
      have hlt' : (k : Int) < E.length := by omega
      have hbls := hbl.out.size
      clear q
      obtain ⟨p, hp⟩ : ∃ p, E.getD k d4 = p := ⟨_, rfl⟩
      rw [hp] at c0 c1 c2 c3
      obtain ⟨p0, p1, p2, p3⟩ := p
      simp only at c0 c1 c2 c3
      have hp := Lib.hid hp
      cases m0 : (p0 == 3)
      · go_wp2_with fail
        go_roundw
        case rel => exact ⟨k + 1, by omega, by go_num, Lib.hid (hbl.out.alloc (by omega) _)⟩
        case measure => simp [intOf]; omega
      · cases m1 : (p1 == sku)
        · go_wp2_with fail
          go_roundw
          case rel => exact ⟨k + 1, by omega, by go_num, Lib.hid (hbl.out.alloc (by omega) _)⟩
          case measure => simp [intOf]; omega
        · go_upto_region 7 with fail
          have hba := Lib.hid ((Below.refl wr.heap.size wr).alloc (Nat.le_refl _) (.cells #[.int .i64 p0, .int .i64 p1, .bool p2, .bool p3] 80))
          have d0 := (hba.out.cell (p := ⟨B, 0, none⟩) (by show B < _; omega)).trans cBr
          have d1 := (hba.out.cell (p := ⟨g, k * 4, none⟩) (by show g < _; omega)).trans c0
          have d2 := (hba.out.frozen (p := ⟨g, k * 4, none⟩) (by show g < _; omega)).trans f0
          have hbl2 := Lib.hid (hbl.out.trans (hba.out.mono hbls))
          clear c0 c1 c2 c3 f0 cBr hba
          generalize wr.alloc (.cells #[.int .i64 p0, .int .i64 p1, .bool p2, .bool p3] 80) = wx at *
          go_wp2_with fail
          go_ret2
          have hvv := hv.out
          subst hvv
          have hm := stkg_picked (hst.out.keep hbl2.out) hlt hBg hgB hp.out
          exact ⟨⟨_, _, rfl⟩, hm.1, (hbl2.out.mono (by omega)).trans hm.2⟩
    · obtain rfl : k = E.length := by omega
      have hlt' : ¬ (E.length : Int) < E.length := by omega
      go_wp2_with fail
      go_ret2
      exact ⟨⟨_, _, rfl⟩, ⟨E, hst.out.keep hbl.out, rfl⟩, hbl.out.mono (by omega)⟩

/-- What slices.Clone, and Clone, leave. -/
def uclPost (w : World) (E : Units) (e : Ending) (w' : World) : Prop := (∃ v', e = .returned v' ∧ w'.ownsRow w.heap.size 80 4 v' E.length (cells4 E)) ∧ Below w.heap.size w w'
def sclPost (w : World) (E : Units) (e : Ending) (w' : World) : Prop := (∃ B2 v2, e = .returned (.pointer (some ⟨B2, 0, none⟩)) ∧ StkG w' w.heap.size B2 v2 E) ∧ Below w.heap.size w w'

set_option maxRecDepth 100000 in
theorem uclone_any {w : World} {base : Nat} {v : Value} {E : Units} (h : w.ownsRow base 80 4 v E.length (cells4 E)) (hn : E.length ≤ 300) :
    Calls Try.prog 49 #[v] w fun e w' => uclPost w E e w' := by
  have q76 : ∀ (w : World) (a : Option Addr) (n c n' c' : Nat), (binOp .eql 76 (.slice a n c) (.slice none n' c')).run Try.prog w = .ok (.bool a.isNone) w := fun w a n c n' c' => Go.Lib.run_eql_slice_nil w _ _ a n c n' c' Try.underlying76
  have hr := h
  rcases h.2 with ⟨rfl, h0⟩ | ⟨g, cap, cur, rfl, hb, hg, hnc, hcm, hcs, ht⟩
  · obtain rfl : E = [] := List.eq_nil_of_length_eq_zero h0
    clear hr h
    go_enter Try.func49, Try.ntmps49
    go_wp2_with fail
    go_ret
    exact ⟨⟨_, by simp, World.ownsRow_nil _ _ _ _⟩, Below.refl _ _⟩
  · have hcl := Lib.hid ((hr.alloc (.cells #[] 80)).cells (g := g) rfl)
    have hl := cells4_len E
    have h1c := Lib.hid (show ∀ u ∈ cells4 E, u.oneCell' = true from by
      intro u hu
      simp only [cells4, List.mem_flatMap] at hu
      obtain ⟨p, _, hu⟩ := hu
      simp at hu
      rcases hu with rfl | rfl | rfl | rfl <;> rfl)
    clear hr h hg ht hcs
    obtain ⟨i80, hi, hz0, hz1, hz2⟩ := info_parts info80
    go_enter Try.func49, Try.ntmps49
    go_wp2_with (first
      | (at_builtin; refine wpList_append_own _ rfl _ _ 76 rfl w.heap.size 80 i80 (.agg #[.int .i64 0, .int .i64 0, .bool false, .bool false]) 4 24 Try.underlying76 hi hz0 hz1 hz2 rfl (by decide) (.slice (some ⟨w.heap.size, 0, none⟩) 0 0) 0 [] rfl (World.ownsRow_made w #[] 0 (Nat.le_refl _) (by decide) rfl) ⟨g, 0, none⟩ E.length cap (cells4 E) rfl hl hcl.out h1c.out (by unfold maxLen; omega) (by omega) (by simp) ?_; intro v' w5 hown' hgrow hnil))
    go_ret
    refine ⟨⟨v', by simp, ?_⟩, ?_⟩
    · simpa using hown'
    · refine ((Below.refl w.heap.size w).alloc (Nat.le_refl _) _).trans ⟨hgrow.os, hgrow.tape, hgrow.output, hgrow.size, fun k hk => hgrow.block k (by simp; omega) ?_⟩
      intro e
      have e : k = w.heap.size := by injection e
      omega

theorem sclone_any {w : World} {B : Nat} {v : Value} {E : Units} (h : StkAt w B v E) (hn : E.length ≤ 300) :
    Calls Try.prog 26 #[.pointer (some ⟨B, 0, none⟩)] w fun e w' => sclPost w E e w' := by
  have cB : w.cell? ⟨B, 0, none⟩ = some v := by simp [World.cell?, h.box]
  have H49 := Lib.hid (uclone_any h.row hn)
  go_enter Try.func26, Try.ntmps26
  go_wp2_with fail
  refine H49.out.mono ?_
  rintro e w1 ⟨⟨v', rfl, hr⟩, hb⟩
  obtain ⟨a2, c2, rfl, _⟩ := quads_of_row hr
  have hr := Lib.hid hr
  have hb := Lib.hid hb
  go_wp2_with fail
  go_ret
  have hs := hb.out.size
  refine ⟨⟨w1.heap.size, _, by simp, ⟨heap_alloc_new _ _, hr.out.alloc _, fun e => by have := (hr.out.lt _ e).2; omega, hs⟩⟩, hb.out.alloc hs _⟩

theorem sclone_nil (w : World) : Calls Try.prog 26 #[.pointer none] w fun e w' => e = .returned (.pointer none) ∧ w' = w := by
  go_enter Try.func26, Try.ntmps26
  go_wp2_with fail
  go_ret
  exact ⟨rfl, rfl⟩

end Go.Proofs.Ytmdkclgmibjlfaa.Ba
