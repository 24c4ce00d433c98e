/- The law RuleWorth answers true at every policy, share, reason and grade; no condition. -/
import Derived.Test.YteeiiahmhmbepaaRows
import Derived.Test.YteeiiahmhmbepaaPolW
import Derived.Test.YteeiiahmhmbepaaOpen
import Derived.WalkKit
import Derived.ProofKit
import Derived.OpenShut
import Derived.ShutString
import Derived.ChangeOld
import Derived.Below
import Derived.SizedLaws
namespace Go.Proofs.Yteeiiahmhmbepaa.ruleWorth
open Go.ChangeShapes Go.WideShapes Go.ChangeAt Go.RowKit Go.Proofs.Yteeiiahmhmbepaa.Lib
open Go.ChangeMaps (open_string shut_string)
set_option linter.unusedVariables false
theorem own : ownKnob Try.prog.godebug = none := by kernel_rfl
theorem laidOut : laidOutB Try.prog = true := by kernel_rfl
set_option maxRecDepth 100000 in
theorem lifted (os : Os) (started : os.Started) (H : Type) (enc : TypeId × Value → H) :
    ReturnsInHanded {} Try.checked os 9 .any (Rows.ruleWorthSpec.pre6 enc Try.prog Try.f9 Rows.ruleWorthRow.domain false) (Rows.ruleWorthSpec.post enc Try.prog Try.f9 false true false false) := by
  refine returnsInHanded_of_change_sized (C := Try.checked) own started (by kernel_rfl) Try.func9
    (ChangeSpec.witness6 (enc := enc) (C := Try.checked) false ⟨#[], #[.agg #[.int .i64 0, .bool false, .bool false, .bool false, .int .i64 0, .int .i64 0, .int .i64 0, .int .i64 0, .int .i64 0, .int .i64 0, .int .i64 0, .int .i64 0, .int .i64 0, .int .i64 0, .int .i64 0, .int .i64 0], .int .i64 0, .int .i64 0, .int .i64 0], []⟩ 8 (by kernel_rfl) (by kernel_rfl) (by kernel_rfl) (by kernel_rfl)) ?_
  intro W base args ds gs before hval0 hW hcnd hsz0 _
  have hsz : (DataW.weightsEach Try.prog (Try.f9.params.toList ++ Rows.ruleWorthSpec.plain.varTypes Try.prog) (ds ++ gs)).all (· ≤ reachBytes) = true := hsz0
  have hval : ∀ (j : Nat) t v, Try.f9.params[j]? = some t → args[j]? = some v → Value.okWide Try.prog W .any base t v := hval0
  have hW' := hW
  obtain ⟨p, q, hA0, hV, rfl, hfz, hnd⟩ := hW
  have hA : DataW.TrodAll enc Try.prog W 0 (fun _ => true) true Try.f9.params.toList args.toList ds p := hA0
  rw [Try.params9] at hA hval hsz
  obtain ⟨v0, vs0, d0, ds0, p0, q0, hargs, rfl, rfl, h0, r0⟩ := trodAll_cons hA
  obtain ⟨v1, vs1, d1, ds1, p1, q1, rfl, rfl, rfl, h1, r1⟩ := trodAll_cons r0
  obtain ⟨v2, vs2, d2, ds2, p2, q2, rfl, rfl, rfl, h2, r2⟩ := trodAll_cons r1
  obtain ⟨v3, vs3, d3, ds3, p3, q3, rfl, rfl, rfl, h3, r3⟩ := trodAll_cons r2
  obtain ⟨rfl, rfl, rfl⟩ := trodAll_nil r3
  obtain rfl : args = #[v0, v1, v2, v3] := by cases args; simp_all
  obtain ⟨rfl, rfl⟩ := trodVars_none hV
  have k0 := h0
  have lt0 : ∀ x ∈ p0, x.block < W.heap.size := by obtain ⟨m, hm⟩ := k0; exact DataW.trod_lt m _ _ _ hm
  obtain ⟨cs0, rfl, l0⟩ := open_flat (n := 4) (.inl ⟨_, Try.underlying42⟩) (by kernel_rfl) (hval 0 42 v0 rfl rfl) h0
  rw [show leaves Try.prog 4 42 = [3, 4, 4, 4, 3, 3, 3, 3, 3, 3, 3, 3, 3, 3, 3, 3] from by kernel_rfl] at l0
  have m0_0 := l0
  clear l0
  obtain ⟨b0_0, rest0_0, e0_0, q0_0, m0_1⟩ := m0_0.cons
  subst e0_0
  clear m0_0
  obtain ⟨a0_0, rfl, w0_0⟩ := q0_0.int Try.underlying3
  obtain ⟨b0_1, rest0_1, e0_1, q0_1, m0_2⟩ := m0_1.cons
  subst e0_1
  clear m0_1
  obtain ⟨a0_1, rfl⟩ := q0_1.bool Try.underlying4
  obtain ⟨b0_2, rest0_2, e0_2, q0_2, m0_3⟩ := m0_2.cons
  subst e0_2
  clear m0_2
  obtain ⟨a0_2, rfl⟩ := q0_2.bool Try.underlying4
  obtain ⟨b0_3, rest0_3, e0_3, q0_3, m0_4⟩ := m0_3.cons
  subst e0_3
  clear m0_3
  obtain ⟨a0_3, rfl⟩ := q0_3.bool Try.underlying4
  obtain ⟨b0_4, rest0_4, e0_4, q0_4, m0_5⟩ := m0_4.cons
  subst e0_4
  clear m0_4
  obtain ⟨a0_4, rfl, w0_4⟩ := q0_4.int Try.underlying3
  obtain ⟨b0_5, rest0_5, e0_5, q0_5, m0_6⟩ := m0_5.cons
  subst e0_5
  clear m0_5
  obtain ⟨a0_5, rfl, w0_5⟩ := q0_5.int Try.underlying3
  obtain ⟨b0_6, rest0_6, e0_6, q0_6, m0_7⟩ := m0_6.cons
  subst e0_6
  clear m0_6
  obtain ⟨a0_6, rfl, w0_6⟩ := q0_6.int Try.underlying3
  obtain ⟨b0_7, rest0_7, e0_7, q0_7, m0_8⟩ := m0_7.cons
  subst e0_7
  clear m0_7
  obtain ⟨a0_7, rfl, w0_7⟩ := q0_7.int Try.underlying3
  obtain ⟨b0_8, rest0_8, e0_8, q0_8, m0_9⟩ := m0_8.cons
  subst e0_8
  clear m0_8
  obtain ⟨a0_8, rfl, w0_8⟩ := q0_8.int Try.underlying3
  obtain ⟨b0_9, rest0_9, e0_9, q0_9, m0_10⟩ := m0_9.cons
  subst e0_9
  clear m0_9
  obtain ⟨a0_9, rfl, w0_9⟩ := q0_9.int Try.underlying3
  obtain ⟨b0_10, rest0_10, e0_10, q0_10, m0_11⟩ := m0_10.cons
  subst e0_10
  clear m0_10
  obtain ⟨a0_10, rfl, w0_10⟩ := q0_10.int Try.underlying3
  obtain ⟨b0_11, rest0_11, e0_11, q0_11, m0_12⟩ := m0_11.cons
  subst e0_11
  clear m0_11
  obtain ⟨a0_11, rfl, w0_11⟩ := q0_11.int Try.underlying3
  obtain ⟨b0_12, rest0_12, e0_12, q0_12, m0_13⟩ := m0_12.cons
  subst e0_12
  clear m0_12
  obtain ⟨a0_12, rfl, w0_12⟩ := q0_12.int Try.underlying3
  obtain ⟨b0_13, rest0_13, e0_13, q0_13, m0_14⟩ := m0_13.cons
  subst e0_13
  clear m0_13
  obtain ⟨a0_13, rfl, w0_13⟩ := q0_13.int Try.underlying3
  obtain ⟨b0_14, rest0_14, e0_14, q0_14, m0_15⟩ := m0_14.cons
  subst e0_14
  clear m0_14
  obtain ⟨a0_14, rfl, w0_14⟩ := q0_14.int Try.underlying3
  obtain ⟨b0_15, rest0_15, e0_15, q0_15, m0_16⟩ := m0_15.cons
  subst e0_15
  clear m0_15
  obtain ⟨a0_15, rfl, w0_15⟩ := q0_15.int Try.underlying3
  obtain rfl := m0_16.nil
  have k1 := h1
  have lt1 : ∀ x ∈ p1, x.block < W.heap.size := by obtain ⟨m, hm⟩ := k1; exact DataW.trod_lt m _ _ _ hm
  obtain ⟨a1, rfl, _, _, w1⟩ := open_int Try.underlying2 (hval 1 2 v1 rfl rfl) h1
  have k2 := h2
  have lt2 : ∀ x ∈ p2, x.block < W.heap.size := by obtain ⟨m, hm⟩ := k2; exact DataW.trod_lt m _ _ _ hm
  obtain ⟨a2, rfl, _, _, w2⟩ := open_int Try.underlying3 (hval 2 3 v2 rfl rfl) h2
  have k3 := h3
  have lt3 : ∀ x ∈ p3, x.block < W.heap.size := by obtain ⟨m, hm⟩ := k3; exact DataW.trod_lt m _ _ _ hm
  obtain ⟨a3, rfl, _, _, w3⟩ := open_int Try.underlying3 (hval 3 3 v3 rfl rfl) h3
  clear hA0 hval0 hsz0 hsz
  refine (Led.worth_law ⟨a0_0, a0_1, a0_2, a0_3, a0_4, a0_5, a0_6, a0_7, a0_8, a0_9, a0_10, a0_11, a0_12, a0_13, a0_14, a0_15⟩ a1 a2 a3 W).mono fun e W' ⟨he, bel⟩ => ?_
  subst he
  exact ⟨_, rfl, _, _, _, [], _, [], hW', trodAll_mk1 (shut_bool Try.underlying4 _), (trodAll_cons_mk (Below.trod laidOut (by kernel_rfl) (of_decide_eq_true (by kernel_rfl)) k0 bel lt0) (trodAll_cons_mk (Below.trod laidOut (by kernel_rfl) (of_decide_eq_true (by kernel_rfl)) k1 bel lt1) (trodAll_cons_mk (Below.trod laidOut (by kernel_rfl) (of_decide_eq_true (by kernel_rfl)) k2 bel lt2) (trodAll_cons_mk (Below.trod laidOut (by kernel_rfl) (of_decide_eq_true (by kernel_rfl)) k3 bel lt3) trodAll_mk0)))), rfl, bel.frame _, fun h => by cases h⟩
theorem over : Rows.ruleWorthRow.holds Try.pinned (OpenSpec.ofChange Rows.ruleWorthSpec) :=
  OpenClaim.holds_of_wide 9 Try.f9 rfl rfl rfl rfl rfl rfl rfl ⟨rfl, rfl, rfl, rfl, rfl⟩ rfl rfl rfl rfl rfl (by kernel_rfl) Try.func9 (by kernel_rfl)
    (of_decide_eq_true (by kernel_rfl)) (by unfold Func.isWrapper; first | (rw [if_pos (by decide +kernel)]; kernel_rfl) | (rw [if_neg (by decide +kernel)]; exact ⟨rfl, rfl⟩))
    (fun os started H enc _ => lifted os started H enc)
end Go.Proofs.Yteeiiahmhmbepaa.ruleWorth
namespace Go.Proofs.Yteeiiahmhmbepaa
theorem ruleWorth_holds : Rows.RuleWorthSaid := ruleWorth.over
#print axioms ruleWorth_holds
end Go.Proofs.Yteeiiahmhmbepaa
