/- What is put of a return, and read: the plain law. -/
import Derived.Test.YtnkgbigjpihfeaaEb
import Derived.Test.YtnkgbigjpihfeaaIb
set_option linter.unusedVariables false
set_option linter.unusedSimpArgs false
namespace Go.Proofs.Ytnkgbigjpihfeaa.Kd
open Go.RowKit Go.Proofs.Ytnkgbigjpihfeaa.Lib

/-- An item that is at most so much. -/
def goodM (p : Int × Nat × Int) : Bool := decide (0 ≤ p.1 ∧ p.1 ≤ p.2.2 ∧ p.2.2 < 256 ^ p.2.1)
def flat (ps : List (Int × Nat × Int)) : List (Int × Nat) := ps.map fun p => (p.1, p.2.1)
theorem flat_app (a b : List (Int × Nat × Int)) : flat (a ++ b) = flat a ++ flat b := by simp [flat]
theorem flat_good {ps : List (Int × Nat × Int)} (h : ps.all goodM = true) : (flat ps).all goodP = true := by
  simp only [flat, List.all_map, List.all_eq_true] at h ⊢
  intro p hp
  have := of_decide_eq_true (h p hp)
  show goodP (p.1, p.2.1) = true
  exact decide_eq_true ⟨this.1, by show p.1 < 256 ^ p.2.1; omega⟩

/-- These items were read of L; L' is left. -/
def JM (L : List Int) (its : List (Int × Nat × Int)) (L' : List Int) (bad : Bool) : Prop :=
  (bad = false → L = catP (flat its) ++ L' ∧ its.all goodM = true) ∧
  (∀ (it0 : List (Int × Nat × Int)) (R : List Int), it0.all goodM = true → it0.map (·.2) = its.map (·.2) → L = catP (flat it0) ++ R → bad = false)

theorem JM.start (L : List Int) : JM L [] L false := ⟨fun _ => ⟨rfl, rfl⟩, fun _ _ _ _ _ => rfl⟩
theorem flat_inj : ∀ {ps qs : List (Int × Nat × Int)}, ps.map (·.2) = qs.map (·.2) → flat ps = flat qs → ps = qs
  | [], [], _, _ => rfl
  | [], _ :: _, h, _ => by simp at h
  | _ :: _, [], h, _ => by simp at h
  | (x, k, m) :: ps, (y, k', m') :: qs, h, e => by
    simp only [List.map_cons, List.cons.injEq, flat] at h e
    obtain ⟨h1, h2⟩ := h
    obtain ⟨e1, e2⟩ := e
    injection e1 with e3 _
    rw [flat_inj h2 e2, e3, h1]
theorem flat_sizes {ps qs : List (Int × Nat × Int)} (h : ps.map (·.2) = qs.map (·.2)) : (flat ps).map (·.2) = (flat qs).map (·.2) := by
  have e : ∀ l : List (Int × Nat × Int), (flat l).map (·.2) = (l.map (·.2)).map (·.1) := fun l => by simp [flat, Function.comp_def]
  rw [e, e, h]
theorem JM.same {L L' : List Int} {its it0 : List (Int × Nat × Int)} {R : List Int} {bad : Bool} (h : JM L its L' bad) (h1 : it0.all goodM = true) (h2 : it0.map (·.2) = its.map (·.2)) (h3 : L = catP (flat it0) ++ R) : bad = false ∧ its = it0 ∧ L' = R := by
  have hb := h.2 it0 R h1 h2 h3
  obtain ⟨e1, e2⟩ := h.1 hb
  obtain ⟨q1, q2⟩ := catP_inj (flat_good e2) (flat_good h1) (flat_sizes h2.symm) (e1.symm.trans h3)
  exact ⟨hb, flat_inj h2.symm q1, q2⟩

theorem map_snocM {its it0 : List (Int × Nat × Int)} {k : Nat × Int} (h : it0.map (·.2) = its.map (·.2) ++ [k]) : ∃ it1 x, it0 = it1 ++ [(x, k)] ∧ it1.map (·.2) = its.map (·.2) := by
  have hl : it0.length = its.length + 1 := by simpa using congrArg List.length h
  have hne : it0 ≠ [] := fun e => by simp [e] at hl
  refine ⟨it0.dropLast, (it0.getLast hne).1, ?_, ?_⟩
  · have e := List.dropLast_concat_getLast hne
    have h2 : (it0.getLast hne).2 = k := by
      have : (it0.map (·.2)).getLast (by simpa using hne) = (its.map (·.2) ++ [k]).getLast (by simp) := by
        congr 1
      simpa [List.getLast_map] using this
    conv => lhs; rw [← e]
    rw [← h2]
  · have := congrArg List.dropLast h
    simpa [List.map_dropLast] using this

/-- One more item: what was read is x, which is right unless it is bad; and whatever may stand there is read. -/
theorem JM.snoc {L L1 L2 : List Int} {its : List (Int × Nat × Int)} {b1 b2 : Bool} {x : Int} {k : Nat} {m : Int} (h : JM L its L1 b1)
    (h1 : b2 = false → b1 = false ∧ L1 = leB x k ++ L2 ∧ 0 ≤ x ∧ x ≤ m ∧ m < 256 ^ k)
    (h2 : ∀ (y : Int) (R : List Int), 0 ≤ y → y ≤ m → m < 256 ^ k → b1 = false → L1 = leB y k ++ R → b2 = false) : JM L (its ++ [(x, k, m)]) L2 b2 := by
  refine ⟨fun hb => ?_, fun it0 R g1 g2 g3 => ?_⟩
  · obtain ⟨e1, e2, e3, e4, e5⟩ := h1 hb
    obtain ⟨q1, q2⟩ := h.1 e1
    refine ⟨?_, ?_⟩
    · rw [q1, e2, flat_app, catP_app, List.append_assoc]
      simp [flat, catP]
    · rw [List.all_append, q2]
      simp only [List.all_cons, List.all_nil, Bool.and_true, Bool.true_and]
      exact decide_eq_true ⟨e3, e4, e5⟩
  · rw [List.map_append] at g2
    obtain ⟨it1, y, rfl, g4⟩ := map_snocM g2
    rw [List.all_append, Bool.and_eq_true] at g1
    rw [flat_app, catP_app, List.append_assoc] at g3
    obtain ⟨e1, rfl, e⟩ := h.same g1.1 g4 g3
    have hg : goodM (y, k, m) = true := by simpa using g1.2
    have hg' := of_decide_eq_true hg
    exact h2 y R hg'.1 hg'.2.1 hg'.2.2 e1 (by rw [e]; simp [flat, catP])

theorem rdN_false {L1 : List Int} {b1 : Bool} {k : Nat} (hok : okB L1) (h : (rdN L1 b1 k).2.2 = false) : b1 = false ∧ L1 = leB (rdN L1 b1 k).1 k ++ (rdN L1 b1 k).2.1 := by
  unfold rdN at h ⊢
  split at h
  · cases h
  · rename_i hn
    have hl : k ≤ L1.length := by
      rcases Nat.lt_or_ge L1.length k with e | e
      · exact absurd (Or.inr e) hn
      · exact e
    rw [if_neg hn]
    refine ⟨by cases b1 <;> simp_all, ?_⟩
    have := leB_leL (okB_take hok k)
    rw [show (L1.take k).length = k from by simp; omega] at this
    simp only
    rw [this, List.take_append_drop]

theorem JM.num {L L1 : List Int} {its : List (Int × Nat × Int)} {b1 : Bool} (h : JM L its L1 b1) (hok : okB L1) (k : Nat) (m : Int) (hm : m + 1 = 256 ^ k) : JM L (its ++ [((rdN L1 b1 k).1, k, m)]) (rdN L1 b1 k).2.1 (rdN L1 b1 k).2.2 := by
  have hlt := rdN_lt (bad := b1) (k := k) hok
  refine h.snoc (fun hb => ?_) (fun y R h0 h1 h2 hb1 e => ?_)
  · obtain ⟨e1, e2⟩ := rdN_false hok hb
    exact ⟨e1, e2, hlt.1, by omega, by omega⟩
  · rw [hb1, e, rdN_back h0 (by omega)]

theorem JM.flag {L L1 : List Int} {its : List (Int × Nat × Int)} {b1 : Bool} (h : JM L its L1 b1) (hok : okB L1) : JM L (its ++ [(fl (rdF L1 b1).1, 1, 1)]) (rdF L1 b1).2.1 (rdF L1 b1).2.2 := by
  have hlt := rdN_lt (bad := b1) (k := 1) hok
  refine h.snoc (fun hb => ?_) (fun y R h0 h1 h2 hb1 e => ?_)
  · unfold rdF at hb ⊢
    split at hb
    · cases hb
    · rename_i hn
      rw [if_neg hn]
      have e : fl (decide ((rdN L1 b1 1).1 = 1)) = (rdN L1 b1 1).1 := by
        by_cases h1 : (rdN L1 b1 1).1 = 1
        · rw [h1]; rfl
        · rw [decide_eq_false h1]
          show (0 : Int) = _
          omega
      simp only [e]
      obtain ⟨e1, e2⟩ := rdN_false hok hb
      exact ⟨e1, e2, hlt.1, by omega, by decide⟩
  · have e2 : rdN L1 false 1 = (y, R, false) := by
      rw [e]
      exact rdN_back h0 (by rw [p1]; omega)
    unfold rdF
    rw [hb1, e2, if_neg (by omega)]

theorem JM.most {L L1 : List Int} {its : List (Int × Nat × Int)} {b1 : Bool} (h : JM L its L1 b1) (hok : okB L1) (m : Int) (hm : m < 65536) : JM L (its ++ [((rdM L1 b1 m).1, 2, m)]) (rdM L1 b1 m).2.1 (rdM L1 b1 m).2.2 := by
  have hlt := rdN_lt (bad := b1) (k := 2) hok
  refine h.snoc (fun hb => ?_) (fun y R h0 h1 h2 hb1 e => ?_)
  · unfold rdM at hb ⊢
    split at hb
    · cases hb
    · rename_i hn
      rw [if_neg hn]
      obtain ⟨e1, e2⟩ := rdN_false hok hb
      exact ⟨e1, e2, hlt.1, by omega, by rw [p2]; omega⟩
  · have e2 : rdN L1 false 2 = (y, R, false) := by
      rw [e]
      exact rdN_back h0 (by rw [p2]; omega)
    unfold rdM
    rw [hb1, e2, if_neg (by show ¬ m < y; omega)]

/-- A number of eight bytes, as it stands there. -/
def wd8 (x : Int) : Int := x % 18446744073709551616

/-- A return's first items. -/
def rm9 (x0 x1 x2 x3 x4 x6 x7 : Int) (x5 : Bool) (n : Int) : List (Int × Nat × Int) :=
  [(x0, 1, 255), (x1, 1, 255), (x2, 1, 255), (x3, 2, 65535), (x4 + 1, 2, 65535), (fl x5, 1, 1), (x6, 1, 255), (x7, 4, 4294967295), (n, 2, 200)]

/-- A return's items, as they are read. -/
def rmI (x0 x1 x2 x3 x4 x6 x7 x10 x11 x12 x13 : Int) (x5 : Bool) (us gs : List Int) : List (Int × Nat × Int) :=
  [(x0, 1, 255), (x1, 1, 255), (x2, 1, 255), (x3, 2, 65535), (x4 + 1, 2, 65535), (fl x5, 1, 1), (x6, 1, 255), (x7, 4, 4294967295), ((us.length : Int), 2, 200)] ++ us.map (fun x => (x, 1, 255)) ++ gs.map (fun x => (x + 1, 1, 255)) ++
    [(wd8 x10, 8, 18446744073709551615), (wd8 x11, 8, 18446744073709551615), (wd8 x12, 8, 18446744073709551615), (wd8 x13, 8, 18446744073709551615)]

/-- A return's items, as they are put. -/
def rmP (x0 x1 x2 x3 x4 x6 x7 x10 x11 x12 x13 : Int) (x5 : Bool) (us gs : List Int) : List (Int × Nat) :=
  [(x0, 1), (x1, 1), (x2, 1), (x3, 2), (wrap64 (x4 + 1), 2), (fl x5, 1), (x6, 1), (x7, 4), ((us.length : Int), 2)] ++ us.map (fun x => (x, 1)) ++ gs.map (fun x => (wrap64 (x + 1), 1)) ++
    [(wd8 x10, 8), (wd8 x11, 8), (wd8 x12, 8), (wd8 x13, 8)]

theorem wrap_small {x : Int} (h0 : -9223372036854775808 ≤ x) (h1 : x < 9223372036854775808) : wrap64 x = x := by unfold wrap64; omega
theorem rmP_flat {x0 x1 x2 x3 x4 x6 x7 x10 x11 x12 x13 : Int} {x5 : Bool} {us gs : List Int} (h4 : -2 ≤ x4 ∧ x4 ≤ 70000) (hg : ∀ x ∈ gs, -2 ≤ x ∧ x ≤ 70000) : rmP x0 x1 x2 x3 x4 x6 x7 x10 x11 x12 x13 x5 us gs = flat (rmI x0 x1 x2 x3 x4 x6 x7 x10 x11 x12 x13 x5 us gs) := by
  have e : gs.map (fun x => ((wrap64 (x + 1), 1) : Int × Nat)) = gs.map (fun x => (x + 1, 1)) := List.map_congr_left (fun x hx => by rw [wrap_small (by have := hg x hx; omega) (by have := hg x hx; omega)])
  unfold rmP
  rw [e, wrap_small (by omega) (by omega)]
  simp [rmI, flat, Function.comp_def]

end Go.Proofs.Ytnkgbigjpihfeaa.Kd
