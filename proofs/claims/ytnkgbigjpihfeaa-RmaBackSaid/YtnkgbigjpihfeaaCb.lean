/- Commands: awake. -/
import Derived.Test.YtnkgbigjpihfeaaCa
import Derived.Deep.RegionHeld3
import Derived.Deep.MidRow
set_option linter.unusedVariables false
set_option linter.unusedSimpArgs false
namespace Go.Proofs.Ytnkgbigjpihfeaa.Kd
open Go.RowKit Go.Proofs.Ytnkgbigjpihfeaa.Lib

theorem tick_range {w : World} {B : Nat} (h : w.heap[B]? = some (.cells #[.int .i64 7, .int .i64 0, .slice none 0 0, .int .i64 0, .int .i64 0, .bool false, .int .i64 0, .int .i64 0, .int .i64 0, .int .i64 3, .int .i64 0, .bool false] 55 (0, 0))) : w.rangeAt B 0 [.int .i64 7, .int .i64 0, .slice none 0 0, .int .i64 0, .int .i64 0, .bool false, .int .i64 0, .int .i64 0, .int .i64 0, .int .i64 3, .int .i64 0, .bool false] := fun j v hv => by
  simp only [World.cell?, h, Nat.zero_add]
  simpa using hv

theorem tick_cells {w : World} {B : Nat} (h : w.heap[B]? = some (.cells #[.int .i64 7, .int .i64 0, .slice none 0 0, .int .i64 0, .int .i64 0, .bool false, .int .i64 0, .int .i64 0, .int .i64 0, .int .i64 3, .int .i64 0, .bool false] 55 (0, 0))) : w.cell? ⟨B, 0, none⟩ = some (.int .i64 7) ∧ w.cell? ⟨B, 1, none⟩ = some (.int .i64 0) ∧ w.cell? ⟨B, 2, none⟩ = some (.slice none 0 0) ∧ w.cell? ⟨B, 3, none⟩ = some (.int .i64 0) ∧ w.cell? ⟨B, 4, none⟩ = some (.int .i64 0) ∧ w.cell? ⟨B, 5, none⟩ = some (.bool false) ∧
    w.cell? ⟨B, 6, none⟩ = some (.int .i64 0) ∧ w.cell? ⟨B, 7, none⟩ = some (.int .i64 0) ∧ w.cell? ⟨B, 8, none⟩ = some (.int .i64 0) ∧ w.cell? ⟨B, 9, none⟩ = some (.int .i64 3) ∧ w.cell? ⟨B, 10, none⟩ = some (.int .i64 0) ∧ w.cell? ⟨B, 11, none⟩ = some (.bool false) := by
  simp [World.cell?, h]

set_option maxRecDepth 100000 in
set_option maxHeartbeats 1600000 in
theorem formed_tick (w : World) : Calls Try.prog 40 #[tick3] w fun e w' => e = .returned (.bool true) ∧ Below w.heap.size w w' := by
  have HN : Hid (∀ w', Calls Try.prog 71 #[tick3] w' fun e w'' => e = .returned tick3 ∧ Below w'.heap.size w' w'') := Lib.hid needed_tick
  have HE : Hid (∀ w', Calls Try.prog 42 #[tick3, tick3] w' fun e w'' => e = .returned (.bool true) ∧ Below w'.heap.size w' w'') := Lib.hid equal_tick
  have HW : Hid (∀ w', Calls Try.prog 70 #[tick3] w' fun e w'' => endS w' [7, 3, 0] e w'') := Lib.hid write_tick
  unfold tick3 at HN HE HW ⊢
  have hx0 : (w.alloc (.cells #[.int .i64 7, .int .i64 0, .slice none 0 0, .int .i64 0, .int .i64 0, .bool false, .int .i64 0, .int .i64 0, .int .i64 0, .int .i64 3, .int .i64 0, .bool false] 55)).heap[w.heap.size]? = some (.cells #[.int .i64 7, .int .i64 0, .slice none 0 0, .int .i64 0, .int .i64 0, .bool false, .int .i64 0, .int .i64 0, .int .i64 0, .int .i64 3, .int .i64 0, .bool false] 55 (0, 0)) := heap_alloc_new _ _
  have hx : (w.alloc (.cells #[.int .i64 7, .int .i64 0, .slice none 0 0, .int .i64 0, .int .i64 0, .bool false, .int .i64 0, .int .i64 0, .int .i64 0, .int .i64 3, .int .i64 0, .bool false] 55)).drew.heap[w.heap.size]? = some (.cells #[.int .i64 7, .int .i64 0, .slice none 0 0, .int .i64 0, .int .i64 0, .bool false, .int .i64 0, .int .i64 0, .int .i64 0, .int .i64 3, .int .i64 0, .bool false] 55 (0, 0)) := hx0
  go_enter Try.func40, Try.ntmps40
  go_wp2_with fail
  refine wp_region_held_drew (S := fun w' => w'.heap[w.heap.size]? = some (.cells #[.int .i64 7, .int .i64 0, .slice none 0 0, .int .i64 0, .int .i64 0, .bool false, .int .i64 0, .int .i64 0, .int .i64 0, .int .i64 3, .int .i64 0, .bool false] 55 (0, 0))) (by kernel_rfl) hx (fun hHeld => ?_)
  refine wpAnyH_take (i := 0) (v := .pointer (some ⟨w.heap.size, 0, none⟩)) rfl (by kernel_rfl) (by kernel_rfl) (by kernel_rfl) (fun _ _ _ h => h) (Or.inl ⟨by kernel_rfl, ?_⟩) (by assumption) ?_
  · intro w' hSw
    (try dsimp only at hSw)
    go_simp
  (try simp only [Act.put, List.setIfInBounds_toArray, List.set_cons_zero, List.set_cons_succ])
  refine wpAnyH_take (i := 1) (v := .int .i64 7) rfl (by kernel_rfl) (by kernel_rfl) (by kernel_rfl) (fun _ _ _ h => h) (Or.inl ⟨by kernel_rfl, ?_⟩) (by assumption) ?_
  · intro w' hSw
    (try dsimp only at hSw)
    have k0 : w'.cell? ⟨w.heap.size, 0, none⟩ = some (.int .i64 7) := by simp [World.cell?, hSw]
    go_simp
  (try simp only [Act.put, List.setIfInBounds_toArray, List.set_cons_zero, List.set_cons_succ])
  refine wpAnyH_take (i := 2) (v := .bool false) rfl (by kernel_rfl) (by kernel_rfl) (by kernel_rfl) (fun _ _ _ h => h) (Or.inl ⟨by kernel_rfl, ?_⟩) (by assumption) ?_
  · intro w' hSw
    (try dsimp only at hSw)
    go_simp
  (try simp only [Act.put, List.setIfInBounds_toArray, List.set_cons_zero, List.set_cons_succ])
  refine wpAnyH_take (i := 3) (v := .bool false) rfl (by kernel_rfl) (by kernel_rfl) (by kernel_rfl) (fun _ _ _ h => h) (Or.inl ⟨by kernel_rfl, ?_⟩) (by assumption) ?_
  · intro w' hSw
    (try dsimp only at hSw)
    go_simp
  (try simp only [Act.put, List.setIfInBounds_toArray, List.set_cons_zero, List.set_cons_succ])
  refine wpAnyH_take (i := 4) (v := undef) rfl (by kernel_rfl) (by kernel_rfl) (by kernel_rfl) (fun _ _ _ h => h) (Or.inr ⟨by kernel_rfl, rfl⟩) (by assumption) ?_
  (try simp only [Act.put, List.setIfInBounds_toArray, List.set_cons_zero, List.set_cons_succ])
  refine wpAnyH_take (i := 5) (v := undef) rfl (by kernel_rfl) (by kernel_rfl) (by kernel_rfl) (fun _ _ _ h => h) (Or.inr ⟨by kernel_rfl, rfl⟩) (by assumption) ?_
  (try simp only [Act.put, List.setIfInBounds_toArray, List.set_cons_zero, List.set_cons_succ])
  refine wpAnyH_take (i := 6) (v := undef) rfl (by kernel_rfl) (by kernel_rfl) (by kernel_rfl) (fun _ _ _ h => h) (Or.inr ⟨by kernel_rfl, rfl⟩) (by assumption) ?_
  (try simp only [Act.put, List.setIfInBounds_toArray, List.set_cons_zero, List.set_cons_succ])
  refine wpAnyH_take (i := 7) (v := undef) rfl (by kernel_rfl) (by kernel_rfl) (by kernel_rfl) (fun _ _ _ h => h) (Or.inr ⟨by kernel_rfl, rfl⟩) (by assumption) ?_
  (try simp only [Act.put, List.setIfInBounds_toArray, List.set_cons_zero, List.set_cons_succ])
  refine wpAnyH_take (i := 8) (v := undef) rfl (by kernel_rfl) (by kernel_rfl) (by kernel_rfl) (fun _ _ _ h => h) (Or.inr ⟨by kernel_rfl, rfl⟩) (by assumption) ?_
  (try simp only [Act.put, List.setIfInBounds_toArray, List.set_cons_zero, List.set_cons_succ])
  refine wpAnyH_take (i := 9) (v := undef) rfl (by kernel_rfl) (by kernel_rfl) (by kernel_rfl) (fun _ _ _ h => h) (Or.inr ⟨by kernel_rfl, rfl⟩) (by assumption) ?_
  (try simp only [Act.put, List.setIfInBounds_toArray, List.set_cons_zero, List.set_cons_succ])
  refine wpAnyH_take (i := 10) (v := undef) rfl (by kernel_rfl) (by kernel_rfl) (by kernel_rfl) (fun _ _ _ h => h) (Or.inr ⟨by kernel_rfl, rfl⟩) (by assumption) ?_
  (try simp only [Act.put, List.setIfInBounds_toArray, List.set_cons_zero, List.set_cons_succ])
  refine wpAnyH_take (i := 11) (v := undef) rfl (by kernel_rfl) (by kernel_rfl) (by kernel_rfl) (fun _ _ _ h => h) (Or.inr ⟨by kernel_rfl, rfl⟩) (by assumption) ?_
  (try simp only [Act.put, List.setIfInBounds_toArray, List.set_cons_zero, List.set_cons_succ])
  refine wpAnyH_take (i := 12) (v := undef) rfl (by kernel_rfl) (by kernel_rfl) (by kernel_rfl) (fun _ _ _ h => h) (Or.inr ⟨by kernel_rfl, rfl⟩) (by assumption) ?_
  (try simp only [Act.put, List.setIfInBounds_toArray, List.set_cons_zero, List.set_cons_succ])
  refine wpAnyH_take (i := 13) (v := undef) rfl (by kernel_rfl) (by kernel_rfl) (by kernel_rfl) (fun _ _ _ h => h) (Or.inr ⟨by kernel_rfl, rfl⟩) (by assumption) ?_
  (try simp only [Act.put, List.setIfInBounds_toArray, List.set_cons_zero, List.set_cons_succ])
  refine wpAnyH_take (i := 14) (v := .bool false) rfl (by kernel_rfl) (by kernel_rfl) (by kernel_rfl) (fun _ _ _ h => h) (Or.inl ⟨by kernel_rfl, ?_⟩) (by assumption) ?_
  · intro w' hSw
    (try dsimp only at hSw)
    go_simp
  (try simp only [Act.put, List.setIfInBounds_toArray, List.set_cons_zero, List.set_cons_succ])
  refine wpAnyH_take (i := 15) (v := .bool false) rfl (by kernel_rfl) (by kernel_rfl) (by kernel_rfl) (fun _ _ _ h => h) (Or.inl ⟨by kernel_rfl, ?_⟩) (by assumption) ?_
  · intro w' hSw
    (try dsimp only at hSw)
    go_simp
  (try simp only [Act.put, List.setIfInBounds_toArray, List.set_cons_zero, List.set_cons_succ])
  refine wpAnyH_take (i := 16) (v := .agg #[.int .i64 7, .int .i64 0, .slice none 0 0, .int .i64 0, .int .i64 0, .bool false, .int .i64 0, .int .i64 0, .int .i64 0, .int .i64 3, .int .i64 0, .bool false]) rfl (by kernel_rfl) (by kernel_rfl) (by kernel_rfl) (fun _ _ _ h => h) (yieldsIf_load_mid (by kernel_rfl) 55 (.tmp 1) rfl w.heap.size 0 (by go_simp) [.int .i64 7, .int .i64 0, .slice none 0 0, .int .i64 0, .int .i64 0, .bool false, .int .i64 0, .int .i64 0, .int .i64 0, .int .i64 3, .int .i64 0, .bool false] _ (fun _ h => tick_range h) Try.underlying55 rfl (by kernel_rfl)) (by assumption) ?_
  (try simp only [Act.put, List.setIfInBounds_toArray, List.set_cons_zero, List.set_cons_succ])
  refine wpAnyH_take (i := 17) (v := .agg #[.int .i64 7, .int .i64 0, .slice none 0 0, .int .i64 0, .int .i64 0, .bool false, .int .i64 0, .int .i64 0, .int .i64 0, .int .i64 3, .int .i64 0, .bool false]) rfl (by kernel_rfl) (by kernel_rfl) (by kernel_rfl) (fun _ _ _ h => h) (yieldsIf_load_mid (by kernel_rfl) 55 (.tmp 1) rfl w.heap.size 0 (by go_simp) [.int .i64 7, .int .i64 0, .slice none 0 0, .int .i64 0, .int .i64 0, .bool false, .int .i64 0, .int .i64 0, .int .i64 0, .int .i64 3, .int .i64 0, .bool false] _ (fun _ h => tick_range h) Try.underlying55 rfl (by kernel_rfl)) (by assumption) ?_
  (try simp only [Act.put, List.setIfInBounds_toArray, List.set_cons_zero, List.set_cons_succ])
  refine wpAnyH_ready (rs := [18]) (by kernel_rfl) (by simp) ?_
  refine AllReadyH.cons rfl (fun K hK => ?_) AllReadyH.nil
  go_simp
  go_at_call 71
  refine (HN.out _).mono ?_
  rintro e w4 ⟨rfl, hb4⟩
  have hx4 := (hb4.block w.heap.size (by simp)).trans hx
  refine hK.out _ _ hx4 (fun hHeld2 => ?_)
  (try simp only [Act.put, List.setIfInBounds_toArray, List.set_cons_zero, List.set_cons_succ])
  refine wpAnyH_ready (rs := [19]) (by kernel_rfl) (by simp) ?_
  refine AllReadyH.cons rfl (fun K2 hK2 => ?_) AllReadyH.nil
  go_simp
  go_at_call 42
  refine (HE.out _).mono ?_
  rintro e w5 ⟨rfl, hb5⟩
  have hx5 := (hb5.block w.heap.size (by have := hb4.size; simp at this; omega)).trans hx4
  refine hK2.out _ _ hx5 (fun hHeld3 => ?_)
  (try simp only [Act.put, List.setIfInBounds_toArray, List.set_cons_zero, List.set_cons_succ])
  refine wpAnyH_take (i := 20) (v := .bool false) rfl (by kernel_rfl) (by kernel_rfl) (by kernel_rfl) (fun _ _ _ h => h) (Or.inl ⟨by kernel_rfl, ?_⟩) (by assumption) ?_
  · intro w' hSw
    (try dsimp only at hSw)
    go_simp
  (try simp only [Act.put, List.setIfInBounds_toArray, List.set_cons_zero, List.set_cons_succ])
  refine wpAnyH_take (i := 21) (v := .bool false) rfl (by kernel_rfl) (by kernel_rfl) (by kernel_rfl) (fun _ _ _ h => h) (Or.inl ⟨by kernel_rfl, ?_⟩) (by assumption) ?_
  · intro w' hSw
    (try dsimp only at hSw)
    go_simp
  (try simp only [Act.put, List.setIfInBounds_toArray, List.set_cons_zero, List.set_cons_succ])
  refine wpAnyH_done (by kernel_rfl) ?_ _
  obtain ⟨k0, k1, k2, k3, k4, k5, k6, k7, k8, k9, k10, k11⟩ := tick_cells hx5
  have hbb := hb4.size
  have hbw : Below w.heap.size w w5 := by
    refine (((Below.refl w.heap.size w).alloc (Nat.le_refl _) _).drew).trans ((hb4.mono (by simp)).trans (hb5.mono (by simp at hbb; omega)))
  replace hbw := Lib.hid hbw
  clear hx hx0 hx4 hx5 hb4 hb5 hHeld hHeld2 hHeld3 hbb
  go_wp2_with fail
  refine (HW.out _).mono ?_
  rintro e w6 ⟨a6, c6, rfl, g1, g2, g3, g4, g5, g6⟩
  have hs := hbw.out.size
  replace g6 := Lib.hid (hbw.out.trans (g6.mono hs))
  clear g1 g2 g3 g4 g5 k0 k1 k2 k3 k4 k5 k6 k7 k8 k9 k10 k11
  go_wp2_with fail
  go_ret
  exact ⟨rfl, g6.out⟩

set_option maxRecDepth 100000 in
set_option maxHeartbeats 1600000 in
theorem encode_tick (w : World) : Calls Try.prog 37 #[tick3] w fun e w' => endS w [7, 3, 0] e w' := by
  have HF : Hid (∀ w', Calls Try.prog 40 #[tick3] w' fun e w'' => e = .returned (.bool true) ∧ Below w'.heap.size w' w'') := Lib.hid formed_tick
  have HW : Hid (∀ w', Calls Try.prog 70 #[tick3] w' fun e w'' => endS w' [7, 3, 0] e w'') := Lib.hid write_tick
  unfold tick3 at HF HW ⊢
  have hx : (w.alloc (.cells #[.int .i64 7, .int .i64 0, .slice none 0 0, .int .i64 0, .int .i64 0, .bool false, .int .i64 0, .int .i64 0, .int .i64 0, .int .i64 3, .int .i64 0, .bool false] 55)).heap[w.heap.size]? = some (.cells #[.int .i64 7, .int .i64 0, .slice none 0 0, .int .i64 0, .int .i64 0, .bool false, .int .i64 0, .int .i64 0, .int .i64 0, .int .i64 3, .int .i64 0, .bool false] 55 (0, 0)) := heap_alloc_new _ _
  replace hx := Lib.hid hx
  go_enter Try.func37, Try.ntmps37
  go_wp2_with fail
  refine (HF.out _).mono ?_
  rintro e w4 ⟨rfl, hb4⟩
  obtain ⟨k0, k1, k2, k3, k4, k5, k6, k7, k8, k9, k10, k11⟩ := tick_cells ((hb4.block w.heap.size (by simp)).trans hx.out)
  have hbw : Below w.heap.size w w4 := ((Below.refl w.heap.size w).alloc (Nat.le_refl _) _).trans (hb4.mono (by simp))
  replace hbw := Lib.hid hbw
  clear hb4
  go_wp2_with fail
  refine (HW.out _).mono ?_
  rintro e w6 ⟨a6, c6, rfl, g1, g2, g3, g4, g5, g6⟩
  have hs := hbw.out.size
  replace g6 := Lib.hid (hbw.out.trans (g6.mono hs))
  replace g1 := Lib.hid g1
  replace g2 := Lib.hid g2
  replace g5 := Lib.hid g5
  clear k0 k1 k2 k3 k4 k5 k6 k7 k8 k9 k10 k11
  go_wp2_with fail
  go_ret2
  exact ⟨a6, c6, rfl, g1.out, g2.out, g3, g4, fun p e => Nat.le_trans hs (g5.out p e), g6.out⟩

set_option maxRecDepth 100000 in
set_option maxHeartbeats 1600000 in
theorem awake15 (w : World) : Calls Try.prog 36 #[] w fun e w' => e = .returned (.bool true) ∧ Below w.heap.size w w' := by
  have HE : Hid (∀ w', Calls Try.prog 37 #[tick3] w' fun e w'' => endS w' [7, 3, 0] e w'') := Lib.hid encode_tick
  unfold tick3 at HE
  go_enter Try.func36, Try.ntmps36
  go_wp2_with fail
  refine (HE.out _).mono ?_
  rintro e w1 ⟨a1, c1, rfl, g1, g2, g3, g4, g5, g6⟩
  obtain ⟨b, o, rfl, hbb, hc⟩ := g1.2 (by decide)
  have k0 : w1.cell? ⟨b, o, none⟩ = some (.int .u8 7) := hc 0 (by decide)
  have k1 : w1.cell? ⟨b, o + 1, none⟩ = some (.int .u8 3) := hc 1 (by decide)
  replace g6 := Lib.hid g6
  clear g1 g2 g3 g4 g5 hc
  go_wp2_with fail
  go_ret
  exact ⟨rfl, g6.out⟩

end Go.Proofs.Ytnkgbigjpihfeaa.Kd
