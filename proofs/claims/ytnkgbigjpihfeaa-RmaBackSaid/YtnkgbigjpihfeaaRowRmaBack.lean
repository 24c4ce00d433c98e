/- What is put of a right return is taken as it was, and nothing is left -/
import Derived.Test.YtnkgbigjpihfeaaRows
import Derived.Test.YtnkgbigjpihfeaaFg
import Derived.Test.YtnkgbigjpihfeaaOpen
import Derived.WalkKit
import Derived.ProofKit
import Derived.OpenShut
import Derived.ShutString
import Derived.ChangeOld
import Derived.Below
import Derived.SizedLaws
namespace Go.Proofs.Ytnkgbigjpihfeaa.rmaBack
open Go.ChangeShapes Go.WideShapes Go.ChangeAt Go.RowKit Go.Proofs.Ytnkgbigjpihfeaa.Lib
open Go.ChangeMaps (open_string shut_string)
set_option linter.unusedVariables false
theorem own : ownKnob Try.prog.godebug = none := by kernel_rfl
theorem laidOut : laidOutB Try.prog = true := by kernel_rfl
set_option maxRecDepth 100000 in
theorem lifted (os : Os) (started : os.Started) (H : Type) (enc : TypeId × Value → H) :
    ReturnsInHanded {} Try.checked os 13 .any (Rows.rmaBackSpec.pre6 enc Try.prog Try.f13 Rows.rmaBackRow.domain false) (Rows.rmaBackSpec.post enc Try.prog Try.f13 false true false false) := by
  refine returnsInHanded_of_change_sized (C := Try.checked) own started (by kernel_rfl) Try.func13
    (ChangeSpec.witness6 (enc := enc) (C := Try.checked) false ⟨#[], #[.agg #[.int .i64 0, .int .i64 0, .int .i64 0, .int .i64 0, .int .i64 0, .bool false, .int .i64 0, .int .i64 0, .slice none 0 0, .slice none 0 0, .int .i64 0, .int .i64 0, .int .i64 0, .int .i64 0]], []⟩ 8 (by kernel_rfl) (by kernel_rfl) (by kernel_rfl) (by kernel_rfl)) ?_
  intro W base args ds gs before hval0 hW hcnd hsz0 _
  have hsz : (DataW.weightsEach Try.prog (Try.f13.params.toList ++ Rows.rmaBackSpec.plain.varTypes Try.prog) (ds ++ gs)).all (· ≤ reachBytes) = true := hsz0
  have hval : ∀ (j : Nat) t v, Try.f13.params[j]? = some t → args[j]? = some v → Value.okWide Try.prog W .any base t v := hval0
  have hW' := hW
  obtain ⟨p, q, hA0, hV, rfl, hfz, hnd⟩ := hW
  have hA : DataW.TrodAll enc Try.prog W 0 (fun _ => true) true Try.f13.params.toList args.toList ds p := hA0
  rw [Try.params13] at hA hval hsz
  obtain ⟨v0, vs0, d0, ds0, p0, q0, hargs, rfl, rfl, h0, r0⟩ := trodAll_cons hA
  obtain ⟨rfl, rfl, rfl⟩ := trodAll_nil r0
  obtain rfl : args = #[v0] := by cases args; simp_all
  obtain ⟨rfl, rfl⟩ := trodVars_none hV
  have k0 := h0
  have lt0 : ∀ x ∈ p0, x.block < W.heap.size := by obtain ⟨m, hm⟩ := k0; exact DataW.trod_lt m _ _ _ hm
  obtain ⟨cs0, rfl, l0⟩ := open_flat (n := 4) (.inl ⟨_, Try.underlying73⟩) (by kernel_rfl) (hval 0 73 v0 rfl rfl) h0
  rw [show leaves Try.prog 4 73 = [3, 3, 3, 3, 3, 4, 3, 3, 51, 51, 2, 2, 2, 2] from by kernel_rfl] at l0
  have m0_0 := l0
  clear l0
  obtain ⟨b0_0, rest0_0, e0_0, q0_0, m0_1⟩ := m0_0.cons
  subst e0_0
  clear m0_0
  obtain ⟨a0_0, rfl, w0_0⟩ := q0_0.int Try.underlying3
  obtain ⟨b0_1, rest0_1, e0_1, q0_1, m0_2⟩ := m0_1.cons
  subst e0_1
  clear m0_1
  obtain ⟨a0_1, rfl, w0_1⟩ := q0_1.int Try.underlying3
  obtain ⟨b0_2, rest0_2, e0_2, q0_2, m0_3⟩ := m0_2.cons
  subst e0_2
  clear m0_2
  obtain ⟨a0_2, rfl, w0_2⟩ := q0_2.int Try.underlying3
  obtain ⟨b0_3, rest0_3, e0_3, q0_3, m0_4⟩ := m0_3.cons
  subst e0_3
  clear m0_3
  obtain ⟨a0_3, rfl, w0_3⟩ := q0_3.int Try.underlying3
  obtain ⟨b0_4, rest0_4, e0_4, q0_4, m0_5⟩ := m0_4.cons
  subst e0_4
  clear m0_4
  obtain ⟨a0_4, rfl, w0_4⟩ := q0_4.int Try.underlying3
  obtain ⟨b0_5, rest0_5, e0_5, q0_5, m0_6⟩ := m0_5.cons
  subst e0_5
  clear m0_5
  obtain ⟨a0_5, rfl⟩ := q0_5.bool Try.underlying4
  obtain ⟨b0_6, rest0_6, e0_6, q0_6, m0_7⟩ := m0_6.cons
  subst e0_6
  clear m0_6
  obtain ⟨a0_6, rfl, w0_6⟩ := q0_6.int Try.underlying3
  obtain ⟨b0_7, rest0_7, e0_7, q0_7, m0_8⟩ := m0_7.cons
  subst e0_7
  clear m0_7
  obtain ⟨a0_7, rfl, w0_7⟩ := q0_7.int Try.underlying3
  obtain ⟨b0_8, rest0_8, e0_8, q0_8, m0_9⟩ := m0_8.cons
  subst e0_8
  clear m0_8
  obtain ⟨b0_9, rest0_9, e0_9, q0_9, m0_10⟩ := m0_9.cons
  subst e0_9
  clear m0_9
  obtain ⟨b0_10, rest0_10, e0_10, q0_10, m0_11⟩ := m0_10.cons
  subst e0_10
  clear m0_10
  obtain ⟨a0_10, rfl, w0_10⟩ := q0_10.int Try.underlying2
  obtain ⟨b0_11, rest0_11, e0_11, q0_11, m0_12⟩ := m0_11.cons
  subst e0_11
  clear m0_11
  obtain ⟨a0_11, rfl, w0_11⟩ := q0_11.int Try.underlying2
  obtain ⟨b0_12, rest0_12, e0_12, q0_12, m0_13⟩ := m0_12.cons
  subst e0_12
  clear m0_12
  obtain ⟨a0_12, rfl, w0_12⟩ := q0_12.int Try.underlying2
  obtain ⟨b0_13, rest0_13, e0_13, q0_13, m0_14⟩ := m0_13.cons
  subst e0_13
  clear m0_13
  obtain ⟨a0_13, rfl, w0_13⟩ := q0_13.int Try.underlying2
  obtain rfl := m0_14.nil
  obtain ⟨x0a, x0n, x0c, x0F, rfl, lc0_8, mx0_8, nil0_8, hF0_8, wF0_8⟩ := open_ints_leaf q0_8 Try.underlying51 Try.underlying3 (by kernel_rfl)
  obtain ⟨x0d, x0m, x0e, x0G, rfl, lc0_9, mx0_9, nil0_9, hF0_9, wF0_9⟩ := open_ints_leaf q0_9 Try.underlying51 Try.underlying3 (by kernel_rfl)
  clear hA0 hval0 hsz0 hsz
  refine (Kd.rmaBack_walk a0_0 a0_1 a0_2 a0_3 a0_4 a0_6 a0_7 a0_10 a0_11 a0_12 a0_13 a0_5 x0a x0d x0n x0c x0m x0e x0F x0G W hF0_8 hF0_9 nil0_8 nil0_9 (Kd.wf_i64 w0_0).2 (Kd.wf_i64 w0_1).2 (Kd.wf_i64 w0_2).2 (Kd.wf_i64 w0_3).2 (Kd.wf_i64 w0_6).2 (Kd.wf_i64 w0_7).2 (fun j hj => (Kd.wf_i64 (wF0_8 j hj)).2)).mono fun e W' ⟨he, bel⟩ => ?_
  subst he
  exact ⟨_, rfl, _, _, _, [], _, [], hW', trodAll_mk1 (shut_bool Try.underlying4 _), (trodAll_cons_mk (Below.trod laidOut (by kernel_rfl) (of_decide_eq_true (by kernel_rfl)) k0 bel lt0) trodAll_mk0), rfl, bel.frame _, fun h => by cases h⟩
theorem over : Rows.rmaBackRow.holds Try.pinned (OpenSpec.ofChange Rows.rmaBackSpec) :=
  OpenClaim.holds_of_wide 13 Try.f13 rfl rfl rfl rfl rfl rfl rfl ⟨rfl, rfl, rfl, rfl, rfl⟩ rfl rfl rfl rfl rfl (by kernel_rfl) Try.func13 (by kernel_rfl)
    (of_decide_eq_true (by kernel_rfl)) (by unfold Func.isWrapper; first | (rw [if_pos (by decide +kernel)]; kernel_rfl) | (rw [if_neg (by decide +kernel)]; exact ⟨rfl, rfl⟩))
    (fun os started H enc _ => lifted os started H enc)
end Go.Proofs.Ytnkgbigjpihfeaa.rmaBack
namespace Go.Proofs.Ytnkgbigjpihfeaa
theorem rmaBack_holds : Rows.RmaBackSaid := rmaBack.over
#print axioms rmaBack_holds
end Go.Proofs.Ytnkgbigjpihfeaa
