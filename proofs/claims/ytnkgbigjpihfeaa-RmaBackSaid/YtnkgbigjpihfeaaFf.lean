/- What was put of a right return is taken as it was: the plain law. -/
import Derived.Test.YtnkgbigjpihfeaaFe
set_option linter.unusedVariables false
set_option linter.unusedSimpArgs false
namespace Go.Proofs.Ytnkgbigjpihfeaa.Kd
open Go.RowKit Go.Proofs.Ytnkgbigjpihfeaa.Lib

theorem wd8_inj {x y : Int} (h : wd8 x = wd8 y) (hx : -9223372036854775808 ≤ x ∧ x < 9223372036854775808) (hy : -9223372036854775808 ≤ y ∧ y < 9223372036854775808) : x = y := by unfold wd8 at h; omega
theorem wd8_rng (x : Int) : 0 ≤ wd8 x ∧ wd8 x ≤ 18446744073709551615 := by unfold wd8; omega
theorem fl_rng (b : Bool) : 0 ≤ fl b ∧ fl b ≤ 1 := by cases b <;> decide
theorem fl_inj {a b : Bool} (h : fl a = fl b) : a = b := by cases a <;> cases b <;> simp_all [fl]
theorem goodM_mk {x m : Int} {k : Nat} (h0 : 0 ≤ x) (h1 : x ≤ m) (h2 : m < 256 ^ k) : goodM (x, k, m) = true := decide_eq_true ⟨h0, h1, h2⟩

theorem rm9_app (x0 x1 x2 x3 x4 x6 x7 x10 x11 x12 x13 : Int) (x5 : Bool) (us gs : List Int) : rmI x0 x1 x2 x3 x4 x6 x7 x10 x11 x12 x13 x5 us gs = rm9 x0 x1 x2 x3 x4 x6 x7 x5 (us.length : Int) ++ (us.map (fun x => (x, 1, 255)) ++ gs.map (fun x => (x + 1, 1, 255)) ++
    [(wd8 x10, 8, 18446744073709551615), (wd8 x11, 8, 18446744073709551615), (wd8 x12, 8, 18446744073709551615), (wd8 x13, 8, 18446744073709551615)]) := by
  simp [rmI, rm9]

theorem rmI_good {x0 x1 x2 x3 x4 x6 x7 x10 x11 x12 x13 : Int} {x5 : Bool} {us gs : List Int} (hu : us.length ≤ 200) (hub : ∀ x ∈ us, 0 ≤ x ∧ x ≤ 199) (hgb : ∀ x ∈ gs, -1 ≤ x ∧ x ≤ 4)
    (h0 : 1 ≤ x0 ∧ x0 ≤ 100) (h1 : 0 ≤ x1 ∧ x1 ≤ 19) (h2 : 0 ≤ x2 ∧ x2 ≤ 3) (h3 : 0 ≤ x3 ∧ x3 ≤ 1000) (h4 : -1 ≤ x4 ∧ x4 ≤ 199) (h6 : 1 ≤ x6 ∧ x6 ≤ 9) (h7 : 0 ≤ x7 ∧ x7 ≤ 100000) :
    (rmI x0 x1 x2 x3 x4 x6 x7 x10 x11 x12 x13 x5 us gs).all goodM = true := by
  have hf := fl_rng x5
  rw [List.all_eq_true]
  intro p hp
  simp only [rmI, List.mem_append, List.mem_cons, List.not_mem_nil, or_false, List.mem_map] at hp
  rcases hp with (((rfl | rfl | rfl | rfl | rfl | rfl | rfl | rfl | rfl) | ⟨j, hj, rfl⟩) | ⟨j, hj, rfl⟩) | (rfl | rfl | rfl | rfl)
  · exact goodM_mk (by omega) (by omega) (by decide)
  · exact goodM_mk (by omega) (by omega) (by decide)
  · exact goodM_mk (by omega) (by omega) (by decide)
  · exact goodM_mk (by omega) (by omega) (by decide)
  · exact goodM_mk (by omega) (by omega) (by decide)
  · exact goodM_mk hf.1 hf.2 (by decide)
  · exact goodM_mk (by omega) (by omega) (by decide)
  · exact goodM_mk (by omega) (by omega) (by decide)
  · exact goodM_mk (by omega) (by omega) (by decide)
  · have := hub j hj
    exact goodM_mk (by omega) (by omega) (by decide)
  · have := hgb j hj
    exact goodM_mk (by omega) (by omega) (by decide)
  all_goals exact goodM_mk (wd8_rng _).1 (wd8_rng _).2 (by decide)

theorem map_one_inj {us vs : List Int} {f : Int → Int × Nat × Int} (hf : ∀ x y, f x = f y → x = y) (h : us.map f = vs.map f) : us = vs := by
  induction us generalizing vs with
  | nil => cases vs with
    | nil => rfl
    | cons v vs => simp at h
  | cons u us ih => cases vs with
    | nil => simp at h
    | cons v vs =>
      simp only [List.map_cons, List.cons.injEq] at h
      rw [hf _ _ h.1, ih h.2]

/-- Just these are taken. -/
theorem back_same {x0 x1 x2 x3 x4 x6 x7 x10 x11 x12 x13 : Int} {x5 : Bool} {us gs : List Int} {y0 y1 y2 y3 y4 y6 y7 y10 y11 y12 y13 : Int} {y5 : Bool} {vs hs : List Int} {L L' L9 : List Int} {bad b9 : Bool}
    (hg : (rmI x0 x1 x2 x3 x4 x6 x7 x10 x11 x12 x13 x5 us gs).all goodM = true) (hL : L = catP (flat (rmI x0 x1 x2 x3 x4 x6 x7 x10 x11 x12 x13 x5 us gs)))
    (hJ : JM L (rmI y0 y1 y2 y3 y4 y6 y7 y10 y11 y12 y13 y5 vs hs) L' bad) (hJ9 : JM L (rm9 y0 y1 y2 y3 y4 y6 y7 y5 (vs.length : Int)) L9 b9)
    (hl : us.length = gs.length) (hl2 : vs.length = hs.length) (hx : ∀ x ∈ [x10, x11, x12, x13], -9223372036854775808 ≤ x ∧ x < 9223372036854775808) (hy : ∀ x ∈ [y10, y11, y12, y13], -9223372036854775808 ≤ x ∧ x < 9223372036854775808) :
    bad = false ∧ L' = [] ∧ y0 = x0 ∧ y1 = x1 ∧ y2 = x2 ∧ y3 = x3 ∧ y4 = x4 ∧ y6 = x6 ∧ y7 = x7 ∧ y10 = x10 ∧ y11 = x11 ∧ y12 = x12 ∧ y13 = x13 ∧ y5 = x5 ∧ vs = us ∧ hs = gs := by
  have hg9 : (rm9 x0 x1 x2 x3 x4 x6 x7 x5 (us.length : Int)).all goodM = true := by
    rw [rm9_app, List.all_append, Bool.and_eq_true] at hg
    exact hg.1
  have e9 := (hJ9.same (it0 := rm9 x0 x1 x2 x3 x4 x6 x7 x5 (us.length : Int)) hg9 rfl (by
    rw [hL, rm9_app, flat_app, catP_app])).2.1
  simp only [rm9, List.cons.injEq, Prod.mk.injEq, and_true] at e9
  obtain ⟨e0, e1, e2, e3, e4, e5, e6, e7, e8⟩ := e9
  have hlen : vs.length = us.length := by omega
  have hm : ∀ (l : List Int) (f : Int → Int) (k : Nat) (m : Int), (l.map (fun x => (f x, k, m))).map (·.2) = List.replicate l.length (k, m) := fun l f k m => by
    simp [Function.comp_def, List.map_const']
  have hsz : (rmI x0 x1 x2 x3 x4 x6 x7 x10 x11 x12 x13 x5 us gs).map (·.2) = (rmI y0 y1 y2 y3 y4 y6 y7 y10 y11 y12 y13 y5 vs hs).map (·.2) := by
    rw [rm9_app, rm9_app]
    simp only [List.map_append]
    rw [hm us (fun x => x), hm vs (fun x => x), hm gs (fun x => x + 1), hm hs (fun x => x + 1), hlen, ← hl2, ← hl, hlen]
    rfl
  obtain ⟨hb, hi, hr⟩ := hJ.same hg hsz (R := []) (by rw [hL, List.append_nil])
  rw [rm9_app, rm9_app] at hi
  obtain ⟨_, hi2⟩ := List.append_inj hi (by simp [rm9])
  obtain ⟨hi3, hi4⟩ := List.append_inj hi2 (by simp; omega)
  obtain ⟨hi5, hi6⟩ := List.append_inj hi3 (by simp; omega)
  have hvs : vs = us := map_one_inj (f := fun x => (x, 1, 255)) (fun x y h => by injection h) hi5
  have hhs : hs = gs := map_one_inj (f := fun x => (x + 1, 1, 255)) (fun x y h => by injection h with h1; omega) hi6
  simp only [List.cons.injEq, Prod.mk.injEq, and_true] at hi4
  obtain ⟨q1, q2, q3, q4⟩ := hi4
  exact ⟨hb, hr, e0, e1, e2, e3, by omega, e6, e7, wd8_inj q1 (hy _ (by simp)) (hx _ (by simp)), wd8_inj q2 (hy _ (by simp)) (hx _ (by simp)), wd8_inj q3 (hy _ (by simp)) (hx _ (by simp)), wd8_inj q4 (hy _ (by simp)) (hx _ (by simp)), fl_inj e5, hvs, hhs⟩

end Go.Proofs.Ytnkgbigjpihfeaa.Kd
