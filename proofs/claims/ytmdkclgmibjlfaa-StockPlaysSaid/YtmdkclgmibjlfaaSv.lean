/- The stock: its units asked, moved, picked, counted. -/
import Derived.Test.YtmdkclgmibjlfaaSu
import Derived.Laws.OwnMore
import Derived.LoopN
set_option linter.unusedVariables false
set_option linter.unusedSimpArgs false
namespace Go.Proofs.Ytmdkclgmibjlfaa.Ba
open Go.RowKit Go.Maps Go.Proofs.Ytmdkclgmibjlfaa.Mx Go.Proofs.Ytmdkclgmibjlfaa.Lib

theorem cells4_len : ∀ E : Units, (cells4 E).length = E.length * 4
  | [] => rfl
  | p :: E => by
    have := cells4_len E
    simp only [cells4, List.flatMap_cons, List.length_append, List.length_cons, List.length_nil] at this ⊢
    omega

theorem cells4_at : ∀ (E : Units) (j : Nat), j < E.length → (cells4 E)[j * 4]? = some (.int .i64 (E.getD j d4).1) ∧ (cells4 E)[j * 4 + 1]? = some (.int .i64 (E.getD j d4).2.1) ∧ (cells4 E)[j * 4 + 2]? = some (.bool (E.getD j d4).2.2.1) ∧ (cells4 E)[j * 4 + 3]? = some (.bool (E.getD j d4).2.2.2)
  | [], j, h => absurd h (by simp)
  | p :: E, 0, h => by simp [cells4]
  | p :: E, j + 1, h => by
    have ih := cells4_at E j (by simpa using h)
    have e1 : (j + 1) * 4 = j * 4 + 1 + 1 + 1 + 1 := by omega
    simp only [cells4, List.flatMap_cons, e1] at ih ⊢
    simpa using ih

theorem cells4_set : ∀ (E : Units) (j : Nat) (p : Int × Int × Bool × Bool), j < E.length → cells4 (E.set j p) = ((((cells4 E).set (j * 4) (.int .i64 p.1)).set (j * 4 + 1) (.int .i64 p.2.1)).set (j * 4 + 2) (.bool p.2.2.1)).set (j * 4 + 3) (.bool p.2.2.2)
  | [], j, p, h => absurd h (by simp)
  | q :: E, 0, p, h => by simp [cells4]
  | q :: E, j + 1, p, h => by
    have ih := cells4_set E j p (by simpa using h)
    have e1 : (j + 1) * 4 = j * 4 + 1 + 1 + 1 + 1 := by omega
    simp only [cells4, List.set_cons_succ, List.flatMap_cons, e1] at ih ⊢
    simp [ih]

/-- A unit's cells. -/
structure QuadAt (w : World) (g o : Nat) (p : Int × Int × Bool × Bool) : Prop where
  c0 : w.cell? ⟨g, o, none⟩ = some (.int .i64 p.1)
  c1 : w.cell? ⟨g, o + 1, none⟩ = some (.int .i64 p.2.1)
  c2 : w.cell? ⟨g, o + 2, none⟩ = some (.bool p.2.2.1)
  c3 : w.cell? ⟨g, o + 3, none⟩ = some (.bool p.2.2.2)
  fr : ∀ i, w.frozen? ⟨g, i, none⟩ = false

theorem StkAt.opn {w : World} {B : Nat} {v : Value} {E : Units} (h : StkAt w B v E) :
    ∃ a c, v = .slice a E.length c ∧ E.length ≤ 9223372036854775807 ∧ (∀ j, j < E.length → ∃ g, a = some ⟨g, 0, none⟩ ∧ g < w.heap.size ∧ B < g ∧ QuadAt w g (j * 4) (E.getD j d4)) := by
  rcases h.row.2 with ⟨hv, h0⟩ | ⟨g, cap, cur, hv, hb, hg, hnc, hcm, hcs, ht⟩
  · exact ⟨none, 0, by rw [hv, h0], by omega, fun j hj => absurd hj (by omega)⟩
  · refine ⟨_, cap, hv, by unfold maxLen at hcm; omega, fun j hj => ⟨g, rfl, (Array.getElem?_eq_some_iff.1 hg).1, by omega, ?_⟩⟩
    have hr := h.row
    rw [hv] at hr
    obtain ⟨h1, h2, h3, h4⟩ := cells4_at E j hj
    have c1 := hr.cellAt (j * 4) (by omega)
    have c2 := hr.cellAt (j * 4 + 1) (by omega)
    have c3 := hr.cellAt (j * 4 + 2) (by omega)
    have c4 := hr.cellAt (j * 4 + 3) (by omega)
    rw [h1] at c1
    rw [h2] at c2
    rw [h3] at c3
    rw [h4] at c4
    exact ⟨c1, c2, c3, c4, fun i => hr.frozenAt i⟩

/-- Is there such a unit? -/
def inR (E : Units) (n : Int) : Bool := decide (0 ≤ n) && decide (n < E.length)

theorem has_nil (n : Int) (w : World) : Calls Try.prog 46 #[.pointer none, .int .i64 n] w fun e w' => e = .returned (.bool false) ∧ w' = w := by
  go_enter Try.func46, Try.ntmps46
  go_wp2_with fail
  go_ret
  exact ⟨rfl, rfl⟩

theorem has_any {w : World} {B : Nat} {v : Value} {E : Units} (h : StkAt w B v E) (n : Int) {Y : Bool} (hY : Hid (inR E n = Y)) : Calls Try.prog 46 #[.pointer (some ⟨B, 0, none⟩), .int .i64 n] w fun e w' => e = .returned (.bool Y) ∧ w' = w := by
  obtain ⟨a, c, rfl, hb, _⟩ := h.opn
  have cB : w.cell? ⟨B, 0, none⟩ = some (.slice a E.length c) := by simp [World.cell?, h.box]
  by_cases h0 : 0 ≤ n
  · by_cases h1 : n < E.length
    · have := hY.out
      simp [inR, h0, h1] at this
      subst this
      clear hY
      go_enter Try.func46, Try.ntmps46
      go_wp2_with fail
      go_ret
      exact ⟨rfl, rfl⟩
    · have := hY.out
      simp only [inR, h0, h1, decide_true, decide_false, Bool.and_false] at this
      subst this
      clear hY
      go_enter Try.func46, Try.ntmps46
      go_wp2_with fail
      go_ret
      exact ⟨rfl, rfl⟩
  · have := hY.out
    simp only [inR, h0, decide_false, Bool.false_and] at this
    subst this
    clear hY
    go_enter Try.func46, Try.ntmps46
    go_wp2_with fail
    go_ret
    exact ⟨rfl, rfl⟩

theorem inR_nat {E : Units} {j : Nat} (h : j < E.length) : inR E j = true := by simp [inR, h]

theorem place_any {w : World} {B : Nat} {v : Value} {E : Units} (h : StkAt w B v E) {j : Nat} (hj : j < E.length) : Calls Try.prog 22 #[.pointer (some ⟨B, 0, none⟩), .int .i64 j] w fun e w' => e = .returned (.int .i64 (E.getD j d4).1) ∧ w' = w := by
  obtain ⟨a, c, rfl, hb, hq⟩ := h.opn
  obtain ⟨g, rfl, hg, hBg, q⟩ := hq j hj
  have cB : w.cell? ⟨B, 0, none⟩ = some (.slice (some ⟨g, 0, none⟩) E.length c) := by simp [World.cell?, h.box]
  have c0 := q.c0
  have H46 := Lib.hid (has_any h j (Y := true) (Lib.hid (inR_nat hj)))
  have hj' : (j : Int) < E.length := by omega
  clear q hq
  generalize (E.getD j d4).1 = p at *
  go_enter Try.func22, Try.ntmps22
  go_wp2_with fail
  refine H46.out.mono ?_
  rintro e w1 ⟨rfl, rfl⟩
  go_wp2_with fail
  go_ret
  exact ⟨rfl, rfl⟩

theorem place_out {w : World} {B : Nat} {v : Value} {E : Units} (h : StkAt w B v E) {n : Int} (hn : inR E n = false) : Calls Try.prog 22 #[.pointer (some ⟨B, 0, none⟩), .int .i64 n] w fun e w' => e = .returned (.int .i64 (-1)) ∧ w' = w := by
  have H46 := Lib.hid (has_any h n (Y := false) (Lib.hid hn))
  go_enter Try.func22, Try.ntmps22
  go_wp2_with fail
  refine H46.out.mono ?_
  rintro e w1 ⟨rfl, rfl⟩
  go_wp2_with fail
  go_ret
  exact ⟨rfl, rfl⟩

theorem move_out {w : World} {B : Nat} {v : Value} {E : Units} (h : StkAt w B v E) {n : Int} (hn : inR E n = false) (t : Int) : Calls Try.prog 19 #[.pointer (some ⟨B, 0, none⟩), .int .i64 n, .int .i64 t] w fun e w' => e = .returned (.int .i64 7) ∧ w' = w := by
  have H46 := Lib.hid (has_any h n (Y := false) (Lib.hid hn))
  go_enter Try.func19, Try.ntmps19
  go_wp2_with fail
  refine H46.out.mono ?_
  rintro e w1 ⟨rfl, rfl⟩
  go_wp2_with fail
  go_ret
  exact ⟨rfl, rfl⟩

/-- What a unit is that was moved. -/
def moved (p : Int × Int × Bool × Bool) (t : Int) : Int × Int × Bool × Bool := (t, p.2.1, p.2.2.1 || t == 2, p.2.2.2 || p.1 == 2)

theorem set_quad {xs : List Value} {k : Nat} {a b x y : Value} (hb : xs[k + 1]? = some b) : ((xs.set (k + 2) x).set (k + 3) y).set k a = (((xs.set k a).set (k + 1) b).set (k + 2) x).set (k + 3) y := by
  have hl := (List.getElem?_eq_some_iff.1 hb).1
  apply List.ext_getElem?
  intro i
  simp only [List.getElem?_set, List.length_set]
  by_cases h0 : k = i
  · subst h0; simp
  · by_cases h1 : k + 1 = i
    · subst h1
      have := (List.getElem?_eq_some_iff.1 hb).2
      simp [hb, hl, this]
    · simp [h0, h1]

theorem stk_moved {w : World} {B g c j : Nat} {E : Units} {p0 p1 : Int} {p2 p3 : Bool} (h : StkAt w B (.slice (some ⟨g, 0, none⟩) E.length c) E) (hj : j < E.length) (hBg : B < g) (hp : E.getD j d4 = (p0, p1, p2, p3)) (t : Int) (x y : Bool)
    (hx : x = (p2 || t == 2)) (hy : y = (p3 || p0 == 2)) :
    StkAt (((w.setCell ⟨g, j * 4 + 2, none⟩ (.bool x)).setCell ⟨g, j * 4 + 3, none⟩ (.bool y)).setCell ⟨g, j * 4, none⟩ (.int .i64 t)) B (.slice (some ⟨g, 0, none⟩) E.length c) (E.set j (moved (p0, p1, p2, p3) t)) ∧
      Below (B + 1) w (((w.setCell ⟨g, j * 4 + 2, none⟩ (.bool x)).setCell ⟨g, j * 4 + 3, none⟩ (.bool y)).setCell ⟨g, j * 4, none⟩ (.int .i64 t)) := by
  have r1 := (h.row.stored (j * 4 + 2) (.bool x)).1
  have r2 := (r1.stored (j * 4 + 3) (.bool y)).1
  have r3 := (r2.stored (j * 4) (.int .i64 t)).1
  have hb : Below (B + 1) w (((w.setCell ⟨g, j * 4 + 2, none⟩ (.bool x)).setCell ⟨g, j * 4 + 3, none⟩ (.bool y)).setCell ⟨g, j * 4, none⟩ (.int .i64 t)) :=
    (((Below.refl _ _).setCell (p := ⟨g, j * 4 + 2, none⟩) (by show B + 1 ≤ g; omega) _).setCell (p := ⟨g, j * 4 + 3, none⟩) (by show B + 1 ≤ g; omega) _).setCell (p := ⟨g, j * 4, none⟩) (by show B + 1 ≤ g; omega) _
  refine ⟨⟨(hb.block B (by omega)).trans h.box, ?_⟩, hb⟩
  have h1 := (cells4_at E j hj).2.1
  rw [hp] at h1
  rw [set_quad h1] at r3
  rw [cells4_set E j _ hj]
  simpa [moved, hx, hy] using r3

set_option maxHeartbeats 1600000 in
theorem move_any {w : World} {B : Nat} {v : Value} {E : Units} (h : StkAt w B v E) {j : Nat} (hj : j < E.length) (t : Int) {Y : Bool} (hY : Hid (mayS (E.getD j d4).1 t = Y)) :
    Calls Try.prog 19 #[.pointer (some ⟨B, 0, none⟩), .int .i64 j, .int .i64 t] w fun e w' => e = .returned (.int .i64 (if Y then 0 else 8)) ∧ StkAt w' B v (if Y then E.set j (moved (E.getD j d4) t) else E) ∧ Below (B + 1) w w' := by
  obtain ⟨a, c, hv, hb, hq⟩ := h.opn
  obtain ⟨g, rfl, hg, hBg, q⟩ := hq j hj
  subst hv
  have cB : w.cell? ⟨B, 0, none⟩ = some (.slice (some ⟨g, 0, none⟩) E.length c) := by simp [World.cell?, h.box]
  have H46 := Lib.hid (has_any h j (Y := true) (Lib.hid (inR_nat hj)))
  have H15 := Lib.hid (may_any (E.getD j d4).1 t w)
  have hj' : (j : Int) < E.length := by omega
  have hBl := h.lt
  have hEl : E.length ≤ 9223372036854775807 := hb
  obtain ⟨p, hp⟩ : ∃ p, E.getD j d4 = p := ⟨_, rfl⟩
  rw [hp] at q H15 hY ⊢
  rw [hY.out] at H15
  obtain ⟨p0, p1, p2, p3⟩ := p
  obtain ⟨c0, c1, c2, c3, fr⟩ := q
  simp only at c0 c1 c2 c3 H15
  have hst := Lib.hid h
  replace hp := Lib.hid hp
  clear h
  clear hq hY
  cases Y
  · go_enter Try.func19, Try.ntmps19
    go_wp2_with fail
    refine H46.out.mono ?_
    rintro e w1 ⟨rfl, rfl⟩
    go_wp2_with fail
    refine H15.out.mono ?_
    rintro e w1 ⟨rfl, hb1⟩
    have hb1 := Lib.hid hb1
    go_wp2_with fail
    go_ret
    exact ⟨by simp, hst.out.keep hb1.out, hb1.out.mono (by omega)⟩
  · cases p2 <;> cases p3
    all_goals
      go_enter Try.func19, Try.ntmps19
      go_wp2_with fail
      refine H46.out.mono ?_
      rintro e w1 ⟨rfl, rfl⟩
      go_wp2_with fail
      refine H15.out.mono ?_
      rintro e w2 ⟨rfl, hb1⟩
      have e0 := (hb1.cell (p := ⟨g, j * 4, none⟩) hg).trans c0
      have e1 := (hb1.cell (p := ⟨g, j * 4 + 1, none⟩) hg).trans c1
      have e2 := (hb1.cell (p := ⟨g, j * 4 + 2, none⟩) hg).trans c2
      have e3 := (hb1.cell (p := ⟨g, j * 4 + 3, none⟩) hg).trans c3
      have f2 := fun i => (hb1.frozen (p := ⟨g, i, none⟩) hg).trans (fr i)
      have h2 := Lib.hid (hst.out.keep hb1)
      have hb1 := Lib.hid hb1
      clear c0 c1 c2 c3 fr
      go_wp2_with fail
      all_goals
        go_ret
        have hm := fun x y hx hy => stk_moved h2.out hj hBg hp.out t x y hx hy
        refine ⟨rfl, (hm _ _ ?_ ?_).1, (hb1.out.mono (by omega)).trans (hm _ _ ?_ ?_).2⟩
        all_goals simp_all

end Go.Proofs.Ytmdkclgmibjlfaa.Ba
