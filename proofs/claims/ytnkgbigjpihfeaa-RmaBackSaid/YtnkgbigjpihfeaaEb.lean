/- What was read, item by item: the plain law. -/
import Derived.Test.YtnkgbigjpihfeaaEa
import Derived.Test.YtnkgbigjpihfeaaDf
set_option linter.unusedVariables false
set_option linter.unusedSimpArgs false
namespace Go.Proofs.Ytnkgbigjpihfeaa.Kd
open Go.RowKit Go.Proofs.Ytnkgbigjpihfeaa.Lib

theorem leB_leL : ∀ {l : List Int}, okB l → leB (leL l) l.length = l
  | [], _ => rfl
  | b :: t, h => by
    have hb := h b List.mem_cons_self
    have ih := leB_leL (l := t) (fun x hx => h x (List.mem_cons_of_mem _ hx))
    simp only [leL, List.length_cons, leB]
    rw [show (b + 256 * leL t) % 256 = b from by omega, show (b + 256 * leL t) / 256 = leL t from by omega, ih]

theorem leB_inj {k : Nat} {x y : Int} (hx : goodP (x, k) = true) (hy : goodP (y, k) = true) (h : leB x k = leB y k) : x = y := by
  have h1 := of_decide_eq_true hx
  have h2 := of_decide_eq_true hy
  have e1 := rdN_back (R := []) h1.1 h1.2
  have e2 := rdN_back (R := []) h2.1 h2.2
  simp only at e1 e2
  rw [h] at e1
  rw [e1] at e2
  injection e2

theorem catP_cons (p : Int × Nat) (ps : List (Int × Nat)) : catP (p :: ps) = leB p.1 p.2 ++ catP ps := rfl
theorem catP_app (ps qs : List (Int × Nat)) : catP (ps ++ qs) = catP ps ++ catP qs := by simp [catP]

theorem catP_inj : ∀ {ps qs : List (Int × Nat)} {A B : List Int}, ps.all goodP = true → qs.all goodP = true → ps.map (·.2) = qs.map (·.2) → catP ps ++ A = catP qs ++ B → ps = qs ∧ A = B
  | [], [], A, B, _, _, _, h => ⟨rfl, by simpa [catP] using h⟩
  | [], _ :: _, _, _, _, _, h, _ => by simp at h
  | _ :: _, [], _, _, _, _, h, _ => by simp at h
  | (x, k) :: ps, (y, k') :: qs, A, B, h1, h2, h3, h4 => by
    simp only [List.map_cons, List.cons.injEq] at h3
    obtain ⟨rfl, h3⟩ := h3
    simp only [List.all_cons, Bool.and_eq_true] at h1 h2
    rw [catP_cons, catP_cons, List.append_assoc, List.append_assoc] at h4
    obtain ⟨e1, e2⟩ := List.append_inj h4 (by simp [leB_len])
    obtain rfl := leB_inj h1.1 h2.1 e1
    obtain ⟨rfl, rfl⟩ := catP_inj h1.2 h2.2 h3 e2
    exact ⟨rfl, rfl⟩

/-- These items were read of L; L' is left. -/
def J (L : List Int) (its : List (Int × Nat)) (L' : List Int) (bad : Bool) : Prop :=
  (bad = false → L = catP its ++ L' ∧ its.all goodP = true) ∧
  (∀ (it0 : List (Int × Nat)) (R : List Int), it0.all goodP = true → it0.map (·.2) = its.map (·.2) → L = catP it0 ++ R → bad = false)

theorem J.start (L : List Int) : J L [] L false := ⟨fun _ => ⟨rfl, rfl⟩, fun _ _ _ _ _ => rfl⟩
theorem J.same {L L' : List Int} {its it0 : List (Int × Nat)} {R : List Int} {bad : Bool} (h : J L its L' bad) (h1 : it0.all goodP = true) (h2 : it0.map (·.2) = its.map (·.2)) (h3 : L = catP it0 ++ R) : bad = false ∧ its = it0 ∧ L' = R := by
  have hb := h.2 it0 R h1 h2 h3
  obtain ⟨e1, e2⟩ := h.1 hb
  obtain ⟨q1, q2⟩ := catP_inj e2 h1 h2.symm (e1.symm.trans h3)
  exact ⟨hb, q1, q2⟩

theorem map_snoc {its it0 : List (Int × Nat)} {k : Nat} (h : it0.map (·.2) = its.map (·.2) ++ [k]) : ∃ it1 x, it0 = it1 ++ [(x, k)] ∧ it1.map (·.2) = its.map (·.2) := by
  have hl : it0.length = its.length + 1 := by simpa using congrArg List.length h
  have hne : it0 ≠ [] := fun e => by simp [e] at hl
  refine ⟨it0.dropLast, (it0.getLast hne).1, ?_, ?_⟩
  · have e := List.dropLast_concat_getLast hne
    have h2 : (it0.getLast hne).2 = k := by
      have : (it0.map (·.2)).getLast (by simpa using hne) = (its.map (·.2) ++ [k]).getLast (by simp) := by
        congr 1
      simpa [List.getLast_map] using this
    conv => lhs; rw [← e]
    rw [← h2]
  · have := congrArg List.dropLast h
    simpa [List.map_dropLast] using this

theorem J.snoc {L L1 : List Int} {its : List (Int × Nat)} {b1 : Bool} (h : J L its L1 b1) (hok : okB L1) (k : Nat) : J L (its ++ [((rdN L1 b1 k).1, k)]) (rdN L1 b1 k).2.1 (rdN L1 b1 k).2.2 := by
  have hlt := rdN_lt (bad := b1) (k := k) hok
  refine ⟨fun hb => ?_, fun it0 R h1 h2 h3 => ?_⟩
  · unfold rdN at hb hlt ⊢
    split at hb
    · cases hb
    · rename_i hn
      have hb1 : b1 = false := by cases b1 <;> simp_all
      have hl : k ≤ L1.length := by
        rcases Nat.lt_or_ge L1.length k with e | e
        · exact absurd (Or.inr e) hn
        · exact e
      rw [if_neg hn] at hlt ⊢
      obtain ⟨e1, e2⟩ := h.1 hb1
      refine ⟨?_, ?_⟩
      · rw [catP_app, List.append_assoc, e1]
        congr 1
        have : leB (leL (L1.take k)) k = L1.take k := by
          have := leB_leL (okB_take hok k)
          rwa [show (L1.take k).length = k from by simp; omega] at this
        rw [show catP [(leL (L1.take k), k)] = leB (leL (L1.take k)) k from by simp [catP], this, List.take_append_drop]
      · rw [List.all_append, e2]
        simp only [List.all_cons, List.all_nil, Bool.and_true, Bool.true_and]
        exact decide_eq_true hlt
  · rw [List.map_append] at h2
    obtain ⟨it1, x, rfl, h4⟩ := map_snoc h2
    rw [List.all_append, Bool.and_eq_true] at h1
    rw [catP_app, List.append_assoc] at h3
    obtain ⟨rfl, rfl, e⟩ := h.same h1.1 h4 h3
    have hg : goodP (x, k) = true := by simpa using h1.2
    have hg' := of_decide_eq_true hg
    rw [e, show catP [(x, k)] = leB x k from by simp [catP], rdN_back hg'.1 hg'.2]

/-- These items, and then a flag, were read. -/
def JF (L : List Int) (its : List (Int × Nat)) (v : Bool) (L' : List Int) (bad : Bool) : Prop :=
  (bad = false → L = catP (its ++ [(fl v, 1)]) ++ L' ∧ (its ++ [(fl v, 1)]).all goodP = true) ∧
  (∀ (it0 : List (Int × Nat)) (v0 : Bool) (R : List Int), it0.all goodP = true → it0.map (·.2) = its.map (·.2) → L = catP (it0 ++ [(fl v0, 1)]) ++ R → bad = false ∧ its = it0 ∧ v = v0 ∧ L' = R)

theorem J.flag {L L1 : List Int} {its : List (Int × Nat)} {b1 : Bool} (h : J L its L1 b1) (hok : okB L1) : JF L its (rdF L1 b1).1 (rdF L1 b1).2.1 (rdF L1 b1).2.2 := by
  have hs := h.snoc hok 1
  have hlt := rdN_lt (bad := b1) (k := 1) hok
  refine ⟨fun hb => ?_, fun it0 v0 R h1 h2 h3 => ?_⟩
  · unfold rdF at hb ⊢
    split at hb
    · cases hb
    · rename_i hn
      rw [if_neg hn]
      have e : fl (decide ((rdN L1 b1 1).1 = 1)) = (rdN L1 b1 1).1 := by
        by_cases h1 : (rdN L1 b1 1).1 = 1
        · rw [h1]; rfl
        · rw [decide_eq_false h1]
          show (0 : Int) = _
          omega
      simp only [e]
      exact hs.1 hb
  · rw [catP_app, List.append_assoc] at h3
    obtain ⟨rfl, rfl, e⟩ := h.same h1 h2 h3
    have hg : goodP (fl v0, 1) = true := by rw [good1]; exact decide_eq_true (in1_fl v0)
    have hg' := of_decide_eq_true hg
    have e2 : rdN L1 false 1 = (fl v0, R, false) := by
      rw [e, show catP [(fl v0, 1)] = leB (fl v0) 1 from by simp [catP]]
      exact rdN_back hg'.1 hg'.2
    unfold rdF
    rw [e2]
    cases v0 <;> simp [fl]

end Go.Proofs.Ytnkgbigjpihfeaa.Kd
