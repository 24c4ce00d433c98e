/- command.Formed and command.Encode at every command. -/
import Derived.Test.YtnkgbigjpihfeaaDd
import Derived.Deep.RegionHeld3
import Derived.Deep.MidRow
set_option linter.unusedVariables false
set_option linter.unusedSimpArgs false
namespace Go.Proofs.Ytnkgbigjpihfeaa.Kd
open Go.RowKit Go.Proofs.Ytnkgbigjpihfeaa.Lib
open Go.Proofs.Ytnkgbigjpihfeaa.Ma (alloc_keep alloc_at eqC equal15 cbox_cells)

theorem c_range (xk xo xr xw xm xu xg xd xq : Int) (xb xy : Bool) (xa : Option Addr) (xn xc : Nat) {w : World} {B : Nat} (h : w.heap[B]? = some (.cells #[.int .i64 xk, .int .i64 xo, .slice xa xn xc, .int .i64 xr, .int .i64 xw, .bool xb, .int .i64 xm, .int .i64 xu, .int .i64 xg, .int .i64 xd, .int .i64 xq, .bool xy] 55 (0, 0))) : w.rangeAt B 0 [.int .i64 xk, .int .i64 xo, .slice xa xn xc, .int .i64 xr, .int .i64 xw, .bool xb, .int .i64 xm, .int .i64 xu, .int .i64 xg, .int .i64 xd, .int .i64 xq, .bool xy] := fun j v hv => by
  simp only [World.cell?, h, Nat.zero_add]
  simpa using hv

set_option maxRecDepth 100000 in
set_option maxHeartbeats 3200000 in
theorem formed_A (xk xo xr xw xm xu xg xd xq : Int) (xb xy : Bool) (xa : Option Addr) (xn xc : Nat) (xF : Nat → Int) (w : World) (NV : Value) (NB : Bool) (ps : List (Int × Nat)) (h1 : (xk == 1) = false)
    (HN : Hid (∀ w', Calls Try.prog 71 #[.agg #[.int .i64 xk, .int .i64 xo, .slice xa xn xc, .int .i64 xr, .int .i64 xw, .bool xb, .int .i64 xm, .int .i64 xu, .int .i64 xg, .int .i64 xd, .int .i64 xq, .bool xy]] w' fun e w'' => e = .returned NV ∧ Below w'.heap.size w' w''))
    (HE : Hid (∀ w', Below w.heap.size w w' → Calls Try.prog 42 #[.agg #[.int .i64 xk, .int .i64 xo, .slice xa xn xc, .int .i64 xr, .int .i64 xw, .bool xb, .int .i64 xm, .int .i64 xu, .int .i64 xg, .int .i64 xd, .int .i64 xq, .bool xy], NV] w' fun e w'' => e = .returned (.bool NB) ∧ Below w'.heap.size w' w''))
    (HW : Hid (∀ w', Below w.heap.size w w' → Calls Try.prog 70 #[.agg #[.int .i64 xk, .int .i64 xo, .slice xa xn xc, .int .i64 xr, .int .i64 xw, .bool xb, .int .i64 xm, .int .i64 xu, .int .i64 xg, .int .i64 xd, .int .i64 xq, .bool xy]] w' fun e w'' => wrPost ps w' e w'')) :
    Calls Try.prog 40 #[.agg #[.int .i64 xk, .int .i64 xo, .slice xa xn xc, .int .i64 xr, .int .i64 xw, .bool xb, .int .i64 xm, .int .i64 xu, .int .i64 xg, .int .i64 xd, .int .i64 xq, .bool xy]] w fun e w' => e = .returned (.bool (NB && ps.all goodP)) ∧ Below w.heap.size w w' := by
  generalize hPG : ps.all goodP = PG
  replace hPG := Lib.hid hPG
  have hx0 : (w.alloc (.cells #[.int .i64 xk, .int .i64 xo, .slice xa xn xc, .int .i64 xr, .int .i64 xw, .bool xb, .int .i64 xm, .int .i64 xu, .int .i64 xg, .int .i64 xd, .int .i64 xq, .bool xy] 55)).heap[w.heap.size]? = some (.cells #[.int .i64 xk, .int .i64 xo, .slice xa xn xc, .int .i64 xr, .int .i64 xw, .bool xb, .int .i64 xm, .int .i64 xu, .int .i64 xg, .int .i64 xd, .int .i64 xq, .bool xy] 55 (0, 0)) := heap_alloc_new _ _
  have hx : (w.alloc (.cells #[.int .i64 xk, .int .i64 xo, .slice xa xn xc, .int .i64 xr, .int .i64 xw, .bool xb, .int .i64 xm, .int .i64 xu, .int .i64 xg, .int .i64 xd, .int .i64 xq, .bool xy] 55)).drew.heap[w.heap.size]? = some (.cells #[.int .i64 xk, .int .i64 xo, .slice xa xn xc, .int .i64 xr, .int .i64 xw, .bool xb, .int .i64 xm, .int .i64 xu, .int .i64 xg, .int .i64 xd, .int .i64 xq, .bool xy] 55 (0, 0)) := hx0
  go_enter Try.func40, Try.ntmps40
  go_wp2_with fail
  refine wp_region_held_drew (S := fun w' => w'.heap[w.heap.size]? = some (.cells #[.int .i64 xk, .int .i64 xo, .slice xa xn xc, .int .i64 xr, .int .i64 xw, .bool xb, .int .i64 xm, .int .i64 xu, .int .i64 xg, .int .i64 xd, .int .i64 xq, .bool xy] 55 (0, 0))) (by kernel_rfl) hx (fun hHeld => ?_)
  refine wpAnyH_take (i := 0) (v := .pointer (some ⟨w.heap.size, 0, none⟩)) rfl (by kernel_rfl) (by kernel_rfl) (by kernel_rfl) (fun _ _ _ h => h) (Or.inl ⟨by kernel_rfl, ?_⟩) (by assumption) ?_
  · intro w' hSw
    (try dsimp only at hSw)
    have kk0 : w'.cell? ⟨w.heap.size, 0, none⟩ = some (.int .i64 xk) := by simp [World.cell?, hSw]
    have kk2 : w'.cell? ⟨w.heap.size, 2, none⟩ = some (.slice xa xn xc) := by simp [World.cell?, hSw]
    go_simp
  (try simp only [Act.put, List.getElem_toArray, List.getElem_cons_zero, List.getElem_cons_succ, List.setIfInBounds_toArray, List.set_cons_zero, List.set_cons_succ])
  refine wpAnyH_take (i := 1) (v := .int .i64 xk) rfl (by kernel_rfl) (by kernel_rfl) (by kernel_rfl) (fun _ _ _ h => h) (Or.inl ⟨by kernel_rfl, ?_⟩) (by assumption) ?_
  · intro w' hSw
    (try dsimp only at hSw)
    have kk0 : w'.cell? ⟨w.heap.size, 0, none⟩ = some (.int .i64 xk) := by simp [World.cell?, hSw]
    have kk2 : w'.cell? ⟨w.heap.size, 2, none⟩ = some (.slice xa xn xc) := by simp [World.cell?, hSw]
    go_simp
  (try simp only [Act.put, List.getElem_toArray, List.getElem_cons_zero, List.getElem_cons_succ, List.setIfInBounds_toArray, List.set_cons_zero, List.set_cons_succ])
  refine wpAnyH_take (i := 2) (v := .bool false) rfl (by kernel_rfl) (by kernel_rfl) (by kernel_rfl) (fun _ _ _ h => h) (Or.inl ⟨by kernel_rfl, ?_⟩) (by assumption) ?_
  · intro w' hSw
    (try dsimp only at hSw)
    have kk0 : w'.cell? ⟨w.heap.size, 0, none⟩ = some (.int .i64 xk) := by simp [World.cell?, hSw]
    have kk2 : w'.cell? ⟨w.heap.size, 2, none⟩ = some (.slice xa xn xc) := by simp [World.cell?, hSw]
    go_simp
  (try simp only [Act.put, List.getElem_toArray, List.getElem_cons_zero, List.getElem_cons_succ, List.setIfInBounds_toArray, List.set_cons_zero, List.set_cons_succ])
  refine wpAnyH_take (i := 3) (v := .bool false) rfl (by kernel_rfl) (by kernel_rfl) (by kernel_rfl) (fun _ _ _ h => h) (Or.inl ⟨by kernel_rfl, ?_⟩) (by assumption) ?_
  · intro w' hSw
    (try dsimp only at hSw)
    have kk0 : w'.cell? ⟨w.heap.size, 0, none⟩ = some (.int .i64 xk) := by simp [World.cell?, hSw]
    have kk2 : w'.cell? ⟨w.heap.size, 2, none⟩ = some (.slice xa xn xc) := by simp [World.cell?, hSw]
    go_simp
  (try simp only [Act.put, List.getElem_toArray, List.getElem_cons_zero, List.getElem_cons_succ, List.setIfInBounds_toArray, List.set_cons_zero, List.set_cons_succ])
  refine wpAnyH_take (i := 4) (v := undef) rfl (by kernel_rfl) (by kernel_rfl) (by kernel_rfl) (fun _ _ _ h => h) (Or.inr ⟨by kernel_rfl, rfl⟩) (by assumption) ?_
  (try simp only [Act.put, List.getElem_toArray, List.getElem_cons_zero, List.getElem_cons_succ, List.setIfInBounds_toArray, List.set_cons_zero, List.set_cons_succ])
  refine wpAnyH_take (i := 5) (v := undef) rfl (by kernel_rfl) (by kernel_rfl) (by kernel_rfl) (fun _ _ _ h => h) (Or.inr ⟨by kernel_rfl, rfl⟩) (by assumption) ?_
  (try simp only [Act.put, List.getElem_toArray, List.getElem_cons_zero, List.getElem_cons_succ, List.setIfInBounds_toArray, List.set_cons_zero, List.set_cons_succ])
  refine wpAnyH_take (i := 6) (v := undef) rfl (by kernel_rfl) (by kernel_rfl) (by kernel_rfl) (fun _ _ _ h => h) (Or.inr ⟨by kernel_rfl, rfl⟩) (by assumption) ?_
  (try simp only [Act.put, List.getElem_toArray, List.getElem_cons_zero, List.getElem_cons_succ, List.setIfInBounds_toArray, List.set_cons_zero, List.set_cons_succ])
  refine wpAnyH_take (i := 7) (v := undef) rfl (by kernel_rfl) (by kernel_rfl) (by kernel_rfl) (fun _ _ _ h => h) (Or.inr ⟨by kernel_rfl, rfl⟩) (by assumption) ?_
  (try simp only [Act.put, List.getElem_toArray, List.getElem_cons_zero, List.getElem_cons_succ, List.setIfInBounds_toArray, List.set_cons_zero, List.set_cons_succ])
  refine wpAnyH_take (i := 8) (v := undef) rfl (by kernel_rfl) (by kernel_rfl) (by kernel_rfl) (fun _ _ _ h => h) (Or.inr ⟨by kernel_rfl, rfl⟩) (by assumption) ?_
  (try simp only [Act.put, List.getElem_toArray, List.getElem_cons_zero, List.getElem_cons_succ, List.setIfInBounds_toArray, List.set_cons_zero, List.set_cons_succ])
  refine wpAnyH_take (i := 9) (v := undef) rfl (by kernel_rfl) (by kernel_rfl) (by kernel_rfl) (fun _ _ _ h => h) (Or.inr ⟨by kernel_rfl, rfl⟩) (by assumption) ?_
  (try simp only [Act.put, List.getElem_toArray, List.getElem_cons_zero, List.getElem_cons_succ, List.setIfInBounds_toArray, List.set_cons_zero, List.set_cons_succ])
  refine wpAnyH_take (i := 10) (v := undef) rfl (by kernel_rfl) (by kernel_rfl) (by kernel_rfl) (fun _ _ _ h => h) (Or.inr ⟨by kernel_rfl, rfl⟩) (by assumption) ?_
  (try simp only [Act.put, List.getElem_toArray, List.getElem_cons_zero, List.getElem_cons_succ, List.setIfInBounds_toArray, List.set_cons_zero, List.set_cons_succ])
  refine wpAnyH_take (i := 11) (v := undef) rfl (by kernel_rfl) (by kernel_rfl) (by kernel_rfl) (fun _ _ _ h => h) (Or.inr ⟨by kernel_rfl, rfl⟩) (by assumption) ?_
  (try simp only [Act.put, List.getElem_toArray, List.getElem_cons_zero, List.getElem_cons_succ, List.setIfInBounds_toArray, List.set_cons_zero, List.set_cons_succ])
  refine wpAnyH_take (i := 12) (v := undef) rfl (by kernel_rfl) (by kernel_rfl) (by kernel_rfl) (fun _ _ _ h => h) (Or.inr ⟨by kernel_rfl, rfl⟩) (by assumption) ?_
  (try simp only [Act.put, List.getElem_toArray, List.getElem_cons_zero, List.getElem_cons_succ, List.setIfInBounds_toArray, List.set_cons_zero, List.set_cons_succ])
  refine wpAnyH_take (i := 13) (v := undef) rfl (by kernel_rfl) (by kernel_rfl) (by kernel_rfl) (fun _ _ _ h => h) (Or.inr ⟨by kernel_rfl, rfl⟩) (by assumption) ?_
  (try simp only [Act.put, List.getElem_toArray, List.getElem_cons_zero, List.getElem_cons_succ, List.setIfInBounds_toArray, List.set_cons_zero, List.set_cons_succ])
  refine wpAnyH_take (i := 14) (v := .bool false) rfl (by kernel_rfl) (by kernel_rfl) (by kernel_rfl) (fun _ _ _ h => h) (Or.inl ⟨by kernel_rfl, ?_⟩) (by assumption) ?_
  · intro w' hSw
    (try dsimp only at hSw)
    have kk0 : w'.cell? ⟨w.heap.size, 0, none⟩ = some (.int .i64 xk) := by simp [World.cell?, hSw]
    have kk2 : w'.cell? ⟨w.heap.size, 2, none⟩ = some (.slice xa xn xc) := by simp [World.cell?, hSw]
    go_simp
  (try simp only [Act.put, List.getElem_toArray, List.getElem_cons_zero, List.getElem_cons_succ, List.setIfInBounds_toArray, List.set_cons_zero, List.set_cons_succ])
  refine wpAnyH_take (i := 15) (v := .bool false) rfl (by kernel_rfl) (by kernel_rfl) (by kernel_rfl) (fun _ _ _ h => h) (Or.inl ⟨by kernel_rfl, ?_⟩) (by assumption) ?_
  · intro w' hSw
    (try dsimp only at hSw)
    have kk0 : w'.cell? ⟨w.heap.size, 0, none⟩ = some (.int .i64 xk) := by simp [World.cell?, hSw]
    have kk2 : w'.cell? ⟨w.heap.size, 2, none⟩ = some (.slice xa xn xc) := by simp [World.cell?, hSw]
    go_simp
  (try simp only [Act.put, List.getElem_toArray, List.getElem_cons_zero, List.getElem_cons_succ, List.setIfInBounds_toArray, List.set_cons_zero, List.set_cons_succ])
  refine wpAnyH_take (i := 16) (v := .agg #[.int .i64 xk, .int .i64 xo, .slice xa xn xc, .int .i64 xr, .int .i64 xw, .bool xb, .int .i64 xm, .int .i64 xu, .int .i64 xg, .int .i64 xd, .int .i64 xq, .bool xy]) rfl (by kernel_rfl) (by kernel_rfl) (by kernel_rfl) (fun _ _ _ h => h) (yieldsIf_load_mid (by kernel_rfl) 55 (.tmp 1) rfl w.heap.size 0 (by go_simp) [.int .i64 xk, .int .i64 xo, .slice xa xn xc, .int .i64 xr, .int .i64 xw, .bool xb, .int .i64 xm, .int .i64 xu, .int .i64 xg, .int .i64 xd, .int .i64 xq, .bool xy] _ (fun _ h => c_range xk xo xr xw xm xu xg xd xq xb xy xa xn xc h) Try.underlying55 rfl (by kernel_rfl)) (by assumption) ?_
  (try simp only [Act.put, List.getElem_toArray, List.getElem_cons_zero, List.getElem_cons_succ, List.setIfInBounds_toArray, List.set_cons_zero, List.set_cons_succ])
  refine wpAnyH_take (i := 17) (v := .agg #[.int .i64 xk, .int .i64 xo, .slice xa xn xc, .int .i64 xr, .int .i64 xw, .bool xb, .int .i64 xm, .int .i64 xu, .int .i64 xg, .int .i64 xd, .int .i64 xq, .bool xy]) rfl (by kernel_rfl) (by kernel_rfl) (by kernel_rfl) (fun _ _ _ h => h) (yieldsIf_load_mid (by kernel_rfl) 55 (.tmp 1) rfl w.heap.size 0 (by go_simp) [.int .i64 xk, .int .i64 xo, .slice xa xn xc, .int .i64 xr, .int .i64 xw, .bool xb, .int .i64 xm, .int .i64 xu, .int .i64 xg, .int .i64 xd, .int .i64 xq, .bool xy] _ (fun _ h => c_range xk xo xr xw xm xu xg xd xq xb xy xa xn xc h) Try.underlying55 rfl (by kernel_rfl)) (by assumption) ?_
  (try simp only [Act.put, List.getElem_toArray, List.getElem_cons_zero, List.getElem_cons_succ, List.setIfInBounds_toArray, List.set_cons_zero, List.set_cons_succ])
  refine wpAnyH_ready (rs := [18]) (by kernel_rfl) (by simp) ?_
  refine AllReadyH.cons rfl (fun K hK => ?_) AllReadyH.nil
  go_simp
  go_at_call 71
  refine (HN.out _).mono ?_
  rintro e w4 ⟨rfl, hb4⟩
  have hx4 := (hb4.block w.heap.size (by simp)).trans hx
  refine hK.out _ _ hx4 (fun hHeld2 => ?_)
  (try simp only [Act.put, List.getElem_toArray, List.getElem_cons_zero, List.getElem_cons_succ, List.setIfInBounds_toArray, List.set_cons_zero, List.set_cons_succ])
  refine wpAnyH_ready (rs := [19]) (by kernel_rfl) (by simp) ?_
  refine AllReadyH.cons rfl (fun K2 hK2 => ?_) AllReadyH.nil
  go_simp
  go_at_call 42
  have hbb := hb4.size
  have hbw4 : Below w.heap.size w w4 := (((Below.refl w.heap.size w).alloc (Nat.le_refl _) _).drew).trans (hb4.mono (by simp))
  refine (HE.out _ hbw4).mono ?_
  rintro e w5 ⟨rfl, hb5⟩
  have hx5 := (hb5.block w.heap.size (by simp at hbb; omega)).trans hx4
  refine hK2.out _ _ hx5 (fun hHeld3 => ?_)
  (try simp only [Act.put, List.getElem_toArray, List.getElem_cons_zero, List.getElem_cons_succ, List.setIfInBounds_toArray, List.set_cons_zero, List.set_cons_succ])
  refine wpAnyH_take (i := 20) (v := .bool (!NB)) rfl (by kernel_rfl) (by kernel_rfl) (by kernel_rfl) (fun _ _ _ h => h) (Or.inl ⟨by kernel_rfl, ?_⟩) (by assumption) ?_
  · intro w' hSw
    (try dsimp only at hSw)
    have kk0 : w'.cell? ⟨w.heap.size, 0, none⟩ = some (.int .i64 xk) := by simp [World.cell?, hSw]
    have kk2 : w'.cell? ⟨w.heap.size, 2, none⟩ = some (.slice xa xn xc) := by simp [World.cell?, hSw]
    go_simp
  (try simp only [Act.put, List.getElem_toArray, List.getElem_cons_zero, List.getElem_cons_succ, List.setIfInBounds_toArray, List.set_cons_zero, List.set_cons_succ])
  refine wpAnyH_take (i := 21) (v := .bool (!NB)) rfl (by kernel_rfl) (by kernel_rfl) (by kernel_rfl) (fun _ _ _ h => h) (Or.inl ⟨by kernel_rfl, ?_⟩) (by assumption) ?_
  · intro w' hSw
    (try dsimp only at hSw)
    have kk0 : w'.cell? ⟨w.heap.size, 0, none⟩ = some (.int .i64 xk) := by simp [World.cell?, hSw]
    have kk2 : w'.cell? ⟨w.heap.size, 2, none⟩ = some (.slice xa xn xc) := by simp [World.cell?, hSw]
    go_simp
  (try simp only [Act.put, List.getElem_toArray, List.getElem_cons_zero, List.getElem_cons_succ, List.setIfInBounds_toArray, List.set_cons_zero, List.set_cons_succ])
  refine wpAnyH_done (by kernel_rfl) ?_ _
  obtain ⟨k0, k1, k2, k3, k4, k5, k6, k7, k8, k9, k10, k11⟩ := cbox_cells xk xo xr xw xm xu xg xd xq xb xy xa xn xc xF hx5
  have hbw : Below w.heap.size w w5 := hbw4.trans (hb5.mono (by simp at hbb; omega))
  replace hbw := Lib.hid hbw
  clear hx hx0 hx4 hx5 hb4 hb5 hHeld hHeld2 hHeld3 hbb hbw4
  cases NB with
  | false =>
    go_wp2_with fail
    go_ret
    exact ⟨rfl, hbw.out⟩
  | true =>
    go_wp2_with fail
    refine (HW.out _ hbw.out).mono ?_
    rintro e w6 hE
    have hs := hbw.out.size
    rcases hE with ⟨hg, a9, c9, rfl, g1, g2, g3, g4, g5, g6⟩ | ⟨hg, z, hz, rfl, g6⟩
    · replace g6 := Lib.hid (hbw.out.trans (g6.mono hs))
      obtain rfl : PG = true := hPG.out.symm.trans hg
      clear g1 g2 g3 g4 g5 k0 k1 k2 k3 k4 k5 k6 k7 k8 k9 k10 k11
      go_wp2_with fail
      go_ret
      exact ⟨rfl, g6.out⟩
    · replace g6 := Lib.hid (hbw.out.trans (g6.mono hs))
      obtain rfl : PG = false := hPG.out.symm.trans hg
      have hz' : (z == 0) = false := by simpa using hz
      clear k0 k1 k2 k3 k4 k5 k6 k7 k8 k9 k10 k11 hz
      go_wp2_with fail
      go_ret
      exact ⟨by simp, g6.out⟩

set_option maxRecDepth 100000 in
set_option maxHeartbeats 3200000 in
theorem formed_B (xk xo xr xw xm xu xg xd xq : Int) (xb xy : Bool) (xa : Option Addr) (xn xc : Nat) (xF : Nat → Int) (w : World) (NV : Value) (NB : Bool) (ps : List (Int × Nat)) (h1 : (xk == 1) = true) (hn1 : xn < 1)
    (HN : Hid (∀ w', Calls Try.prog 71 #[.agg #[.int .i64 xk, .int .i64 xo, .slice xa xn xc, .int .i64 xr, .int .i64 xw, .bool xb, .int .i64 xm, .int .i64 xu, .int .i64 xg, .int .i64 xd, .int .i64 xq, .bool xy]] w' fun e w'' => e = .returned NV ∧ Below w'.heap.size w' w''))
    (HE : Hid (∀ w', Below w.heap.size w w' → Calls Try.prog 42 #[.agg #[.int .i64 xk, .int .i64 xo, .slice xa xn xc, .int .i64 xr, .int .i64 xw, .bool xb, .int .i64 xm, .int .i64 xu, .int .i64 xg, .int .i64 xd, .int .i64 xq, .bool xy], NV] w' fun e w'' => e = .returned (.bool NB) ∧ Below w'.heap.size w' w''))
    (HW : Hid (∀ w', Below w.heap.size w w' → Calls Try.prog 70 #[.agg #[.int .i64 xk, .int .i64 xo, .slice xa xn xc, .int .i64 xr, .int .i64 xw, .bool xb, .int .i64 xm, .int .i64 xu, .int .i64 xg, .int .i64 xd, .int .i64 xq, .bool xy]] w' fun e w'' => wrPost ps w' e w'')) :
    Calls Try.prog 40 #[.agg #[.int .i64 xk, .int .i64 xo, .slice xa xn xc, .int .i64 xr, .int .i64 xw, .bool xb, .int .i64 xm, .int .i64 xu, .int .i64 xg, .int .i64 xd, .int .i64 xq, .bool xy]] w fun e w' => e = .returned (.bool (false)) ∧ Below w.heap.size w w' := by
  have hn1' : (xn : Int) < 1 := by omega
  have hn1b : decide ((xn : Int) < 1) = true := decide_eq_true hn1'
  have hx0 : (w.alloc (.cells #[.int .i64 xk, .int .i64 xo, .slice xa xn xc, .int .i64 xr, .int .i64 xw, .bool xb, .int .i64 xm, .int .i64 xu, .int .i64 xg, .int .i64 xd, .int .i64 xq, .bool xy] 55)).heap[w.heap.size]? = some (.cells #[.int .i64 xk, .int .i64 xo, .slice xa xn xc, .int .i64 xr, .int .i64 xw, .bool xb, .int .i64 xm, .int .i64 xu, .int .i64 xg, .int .i64 xd, .int .i64 xq, .bool xy] 55 (0, 0)) := heap_alloc_new _ _
  have hx : (w.alloc (.cells #[.int .i64 xk, .int .i64 xo, .slice xa xn xc, .int .i64 xr, .int .i64 xw, .bool xb, .int .i64 xm, .int .i64 xu, .int .i64 xg, .int .i64 xd, .int .i64 xq, .bool xy] 55)).drew.heap[w.heap.size]? = some (.cells #[.int .i64 xk, .int .i64 xo, .slice xa xn xc, .int .i64 xr, .int .i64 xw, .bool xb, .int .i64 xm, .int .i64 xu, .int .i64 xg, .int .i64 xd, .int .i64 xq, .bool xy] 55 (0, 0)) := hx0
  go_enter Try.func40, Try.ntmps40
  go_wp2_with fail
  refine wp_region_held_drew (S := fun w' => w'.heap[w.heap.size]? = some (.cells #[.int .i64 xk, .int .i64 xo, .slice xa xn xc, .int .i64 xr, .int .i64 xw, .bool xb, .int .i64 xm, .int .i64 xu, .int .i64 xg, .int .i64 xd, .int .i64 xq, .bool xy] 55 (0, 0))) (by kernel_rfl) hx (fun hHeld => ?_)
  refine wpAnyH_take (i := 0) (v := .pointer (some ⟨w.heap.size, 0, none⟩)) rfl (by kernel_rfl) (by kernel_rfl) (by kernel_rfl) (fun _ _ _ h => h) (Or.inl ⟨by kernel_rfl, ?_⟩) (by assumption) ?_
  · intro w' hSw
    (try dsimp only at hSw)
    have kk0 : w'.cell? ⟨w.heap.size, 0, none⟩ = some (.int .i64 xk) := by simp [World.cell?, hSw]
    have kk2 : w'.cell? ⟨w.heap.size, 2, none⟩ = some (.slice xa xn xc) := by simp [World.cell?, hSw]
    go_simp
  (try simp only [Act.put, List.getElem_toArray, List.getElem_cons_zero, List.getElem_cons_succ, List.setIfInBounds_toArray, List.set_cons_zero, List.set_cons_succ])
  refine wpAnyH_take (i := 1) (v := .int .i64 xk) rfl (by kernel_rfl) (by kernel_rfl) (by kernel_rfl) (fun _ _ _ h => h) (Or.inl ⟨by kernel_rfl, ?_⟩) (by assumption) ?_
  · intro w' hSw
    (try dsimp only at hSw)
    have kk0 : w'.cell? ⟨w.heap.size, 0, none⟩ = some (.int .i64 xk) := by simp [World.cell?, hSw]
    have kk2 : w'.cell? ⟨w.heap.size, 2, none⟩ = some (.slice xa xn xc) := by simp [World.cell?, hSw]
    go_simp
  (try simp only [Act.put, List.getElem_toArray, List.getElem_cons_zero, List.getElem_cons_succ, List.setIfInBounds_toArray, List.set_cons_zero, List.set_cons_succ])
  refine wpAnyH_take (i := 2) (v := .bool true) rfl (by kernel_rfl) (by kernel_rfl) (by kernel_rfl) (fun _ _ _ h => h) (Or.inl ⟨by kernel_rfl, ?_⟩) (by assumption) ?_
  · intro w' hSw
    (try dsimp only at hSw)
    have kk0 : w'.cell? ⟨w.heap.size, 0, none⟩ = some (.int .i64 xk) := by simp [World.cell?, hSw]
    have kk2 : w'.cell? ⟨w.heap.size, 2, none⟩ = some (.slice xa xn xc) := by simp [World.cell?, hSw]
    go_simp
  (try simp only [Act.put, List.getElem_toArray, List.getElem_cons_zero, List.getElem_cons_succ, List.setIfInBounds_toArray, List.set_cons_zero, List.set_cons_succ])
  refine wpAnyH_take (i := 3) (v := .bool true) rfl (by kernel_rfl) (by kernel_rfl) (by kernel_rfl) (fun _ _ _ h => h) (Or.inl ⟨by kernel_rfl, ?_⟩) (by assumption) ?_
  · intro w' hSw
    (try dsimp only at hSw)
    have kk0 : w'.cell? ⟨w.heap.size, 0, none⟩ = some (.int .i64 xk) := by simp [World.cell?, hSw]
    have kk2 : w'.cell? ⟨w.heap.size, 2, none⟩ = some (.slice xa xn xc) := by simp [World.cell?, hSw]
    go_simp
  (try simp only [Act.put, List.getElem_toArray, List.getElem_cons_zero, List.getElem_cons_succ, List.setIfInBounds_toArray, List.set_cons_zero, List.set_cons_succ])
  refine wpAnyH_take (i := 4) (v := .pointer (some ⟨w.heap.size, 2, none⟩)) rfl (by kernel_rfl) (by kernel_rfl) (by kernel_rfl) (fun _ _ _ h => h) (Or.inl ⟨by kernel_rfl, ?_⟩) (by assumption) ?_
  · intro w' hSw
    (try dsimp only at hSw)
    have kk0 : w'.cell? ⟨w.heap.size, 0, none⟩ = some (.int .i64 xk) := by simp [World.cell?, hSw]
    have kk2 : w'.cell? ⟨w.heap.size, 2, none⟩ = some (.slice xa xn xc) := by simp [World.cell?, hSw]
    go_simp
  (try simp only [Act.put, List.getElem_toArray, List.getElem_cons_zero, List.getElem_cons_succ, List.setIfInBounds_toArray, List.set_cons_zero, List.set_cons_succ])
  refine wpAnyH_take (i := 5) (v := .slice xa xn xc) rfl (by kernel_rfl) (by kernel_rfl) (by kernel_rfl) (fun _ _ _ h => h) (Or.inl ⟨by kernel_rfl, ?_⟩) (by assumption) ?_
  · intro w' hSw
    (try dsimp only at hSw)
    have kk0 : w'.cell? ⟨w.heap.size, 0, none⟩ = some (.int .i64 xk) := by simp [World.cell?, hSw]
    have kk2 : w'.cell? ⟨w.heap.size, 2, none⟩ = some (.slice xa xn xc) := by simp [World.cell?, hSw]
    go_simp
  (try simp only [Act.put, List.getElem_toArray, List.getElem_cons_zero, List.getElem_cons_succ, List.setIfInBounds_toArray, List.set_cons_zero, List.set_cons_succ])
  refine wpAnyH_take (i := 6) (v := .int .i64 xn) rfl (by kernel_rfl) (by kernel_rfl) (by kernel_rfl) (fun _ _ _ h => h) (Or.inl ⟨by kernel_rfl, ?_⟩) (by assumption) ?_
  · intro w' hSw
    (try dsimp only at hSw)
    have kk0 : w'.cell? ⟨w.heap.size, 0, none⟩ = some (.int .i64 xk) := by simp [World.cell?, hSw]
    have kk2 : w'.cell? ⟨w.heap.size, 2, none⟩ = some (.slice xa xn xc) := by simp [World.cell?, hSw]
    go_simp
  (try simp only [Act.put, List.getElem_toArray, List.getElem_cons_zero, List.getElem_cons_succ, List.setIfInBounds_toArray, List.set_cons_zero, List.set_cons_succ])
  refine wpAnyH_take (i := 7) (v := .bool true) rfl (by kernel_rfl) (by kernel_rfl) (by kernel_rfl) (fun _ _ _ h => h) (Or.inl ⟨by kernel_rfl, ?_⟩) (by assumption) ?_
  · intro w' hSw
    (try dsimp only at hSw)
    have kk0 : w'.cell? ⟨w.heap.size, 0, none⟩ = some (.int .i64 xk) := by simp [World.cell?, hSw]
    have kk2 : w'.cell? ⟨w.heap.size, 2, none⟩ = some (.slice xa xn xc) := by simp [World.cell?, hSw]
    go_simp
  (try simp only [Act.put, List.getElem_toArray, List.getElem_cons_zero, List.getElem_cons_succ, List.setIfInBounds_toArray, List.set_cons_zero, List.set_cons_succ])
  refine wpAnyH_take (i := 8) (v := .bool true) rfl (by kernel_rfl) (by kernel_rfl) (by kernel_rfl) (fun _ _ _ h => h) (Or.inl ⟨by kernel_rfl, ?_⟩) (by assumption) ?_
  · intro w' hSw
    (try dsimp only at hSw)
    have kk0 : w'.cell? ⟨w.heap.size, 0, none⟩ = some (.int .i64 xk) := by simp [World.cell?, hSw]
    have kk2 : w'.cell? ⟨w.heap.size, 2, none⟩ = some (.slice xa xn xc) := by simp [World.cell?, hSw]
    go_simp
  (try simp only [Act.put, List.getElem_toArray, List.getElem_cons_zero, List.getElem_cons_succ, List.setIfInBounds_toArray, List.set_cons_zero, List.set_cons_succ])
  refine wpAnyH_take (i := 9) (v := undef) rfl (by kernel_rfl) (by kernel_rfl) (by kernel_rfl) (fun _ _ _ h => h) (Or.inr ⟨by kernel_rfl, rfl⟩) (by assumption) ?_
  (try simp only [Act.put, List.getElem_toArray, List.getElem_cons_zero, List.getElem_cons_succ, List.setIfInBounds_toArray, List.set_cons_zero, List.set_cons_succ])
  refine wpAnyH_take (i := 10) (v := undef) rfl (by kernel_rfl) (by kernel_rfl) (by kernel_rfl) (fun _ _ _ h => h) (Or.inr ⟨by kernel_rfl, rfl⟩) (by assumption) ?_
  (try simp only [Act.put, List.getElem_toArray, List.getElem_cons_zero, List.getElem_cons_succ, List.setIfInBounds_toArray, List.set_cons_zero, List.set_cons_succ])
  refine wpAnyH_take (i := 11) (v := undef) rfl (by kernel_rfl) (by kernel_rfl) (by kernel_rfl) (fun _ _ _ h => h) (Or.inr ⟨by kernel_rfl, rfl⟩) (by assumption) ?_
  (try simp only [Act.put, List.getElem_toArray, List.getElem_cons_zero, List.getElem_cons_succ, List.setIfInBounds_toArray, List.set_cons_zero, List.set_cons_succ])
  refine wpAnyH_take (i := 12) (v := undef) rfl (by kernel_rfl) (by kernel_rfl) (by kernel_rfl) (fun _ _ _ h => h) (Or.inr ⟨by kernel_rfl, rfl⟩) (by assumption) ?_
  (try simp only [Act.put, List.getElem_toArray, List.getElem_cons_zero, List.getElem_cons_succ, List.setIfInBounds_toArray, List.set_cons_zero, List.set_cons_succ])
  refine wpAnyH_take (i := 13) (v := .bool true) rfl (by kernel_rfl) (by kernel_rfl) (by kernel_rfl) (fun _ _ _ h => h) (Or.inl ⟨by kernel_rfl, ?_⟩) (by assumption) ?_
  · intro w' hSw
    (try dsimp only at hSw)
    have kk0 : w'.cell? ⟨w.heap.size, 0, none⟩ = some (.int .i64 xk) := by simp [World.cell?, hSw]
    have kk2 : w'.cell? ⟨w.heap.size, 2, none⟩ = some (.slice xa xn xc) := by simp [World.cell?, hSw]
    go_simp
  (try simp only [Act.put, List.getElem_toArray, List.getElem_cons_zero, List.getElem_cons_succ, List.setIfInBounds_toArray, List.set_cons_zero, List.set_cons_succ])
  refine wpAnyH_take (i := 14) (v := .bool true) rfl (by kernel_rfl) (by kernel_rfl) (by kernel_rfl) (fun _ _ _ h => h) (Or.inl ⟨by kernel_rfl, ?_⟩) (by assumption) ?_
  · intro w' hSw
    (try dsimp only at hSw)
    have kk0 : w'.cell? ⟨w.heap.size, 0, none⟩ = some (.int .i64 xk) := by simp [World.cell?, hSw]
    have kk2 : w'.cell? ⟨w.heap.size, 2, none⟩ = some (.slice xa xn xc) := by simp [World.cell?, hSw]
    go_simp
  (try simp only [Act.put, List.getElem_toArray, List.getElem_cons_zero, List.getElem_cons_succ, List.setIfInBounds_toArray, List.set_cons_zero, List.set_cons_succ])
  refine wpAnyH_take (i := 15) (v := .bool true) rfl (by kernel_rfl) (by kernel_rfl) (by kernel_rfl) (fun _ _ _ h => h) (Or.inl ⟨by kernel_rfl, ?_⟩) (by assumption) ?_
  · intro w' hSw
    (try dsimp only at hSw)
    have kk0 : w'.cell? ⟨w.heap.size, 0, none⟩ = some (.int .i64 xk) := by simp [World.cell?, hSw]
    have kk2 : w'.cell? ⟨w.heap.size, 2, none⟩ = some (.slice xa xn xc) := by simp [World.cell?, hSw]
    go_simp
  (try simp only [Act.put, List.getElem_toArray, List.getElem_cons_zero, List.getElem_cons_succ, List.setIfInBounds_toArray, List.set_cons_zero, List.set_cons_succ])
  refine wpAnyH_take (i := 16) (v := undef) rfl (by kernel_rfl) (by kernel_rfl) (by kernel_rfl) (fun _ _ _ h => h) (Or.inr ⟨by kernel_rfl, rfl⟩) (by assumption) ?_
  (try simp only [Act.put, List.getElem_toArray, List.getElem_cons_zero, List.getElem_cons_succ, List.setIfInBounds_toArray, List.set_cons_zero, List.set_cons_succ])
  refine wpAnyH_take (i := 17) (v := undef) rfl (by kernel_rfl) (by kernel_rfl) (by kernel_rfl) (fun _ _ _ h => h) (Or.inr ⟨by kernel_rfl, rfl⟩) (by assumption) ?_
  (try simp only [Act.put, List.getElem_toArray, List.getElem_cons_zero, List.getElem_cons_succ, List.setIfInBounds_toArray, List.set_cons_zero, List.set_cons_succ])
  refine wpAnyH_take (i := 18) (v := undef) rfl (by kernel_rfl) (by kernel_rfl) (by kernel_rfl) (fun _ _ _ h => h) (Or.inr ⟨by kernel_rfl, rfl⟩) (by assumption) ?_
  (try simp only [Act.put, List.getElem_toArray, List.getElem_cons_zero, List.getElem_cons_succ, List.setIfInBounds_toArray, List.set_cons_zero, List.set_cons_succ])
  refine wpAnyH_take (i := 19) (v := undef) rfl (by kernel_rfl) (by kernel_rfl) (by kernel_rfl) (fun _ _ _ h => h) (Or.inr ⟨by kernel_rfl, rfl⟩) (by assumption) ?_
  (try simp only [Act.put, List.getElem_toArray, List.getElem_cons_zero, List.getElem_cons_succ, List.setIfInBounds_toArray, List.set_cons_zero, List.set_cons_succ])
  refine wpAnyH_take (i := 20) (v := undef) rfl (by kernel_rfl) (by kernel_rfl) (by kernel_rfl) (fun _ _ _ h => h) (Or.inr ⟨by kernel_rfl, rfl⟩) (by assumption) ?_
  (try simp only [Act.put, List.getElem_toArray, List.getElem_cons_zero, List.getElem_cons_succ, List.setIfInBounds_toArray, List.set_cons_zero, List.set_cons_succ])
  refine wpAnyH_take (i := 21) (v := .bool true) rfl (by kernel_rfl) (by kernel_rfl) (by kernel_rfl) (fun _ _ _ h => h) (Or.inl ⟨by kernel_rfl, ?_⟩) (by assumption) ?_
  · intro w' hSw
    (try dsimp only at hSw)
    have kk0 : w'.cell? ⟨w.heap.size, 0, none⟩ = some (.int .i64 xk) := by simp [World.cell?, hSw]
    have kk2 : w'.cell? ⟨w.heap.size, 2, none⟩ = some (.slice xa xn xc) := by simp [World.cell?, hSw]
    go_simp
  (try simp only [Act.put, List.getElem_toArray, List.getElem_cons_zero, List.getElem_cons_succ, List.setIfInBounds_toArray, List.set_cons_zero, List.set_cons_succ])
  refine wpAnyH_done (by kernel_rfl) ?_ _
  clear hx hx0 hHeld
  go_wp2_with fail
  go_ret
  exact ⟨rfl, ((Below.refl w.heap.size w).alloc (Nat.le_refl _) _).drew⟩

set_option maxRecDepth 100000 in
set_option maxHeartbeats 3200000 in
theorem formed_C (xk xo xr xw xm xu xg xd xq : Int) (xb xy : Bool) (xa : Option Addr) (xn xc : Nat) (xF : Nat → Int) (w : World) (NV : Value) (NB : Bool) (ps : List (Int × Nat)) (h1 : (xk == 1) = true) (hn1 : ¬ xn < 1) (hn2 : 60 < xn)
    (HN : Hid (∀ w', Calls Try.prog 71 #[.agg #[.int .i64 xk, .int .i64 xo, .slice xa xn xc, .int .i64 xr, .int .i64 xw, .bool xb, .int .i64 xm, .int .i64 xu, .int .i64 xg, .int .i64 xd, .int .i64 xq, .bool xy]] w' fun e w'' => e = .returned NV ∧ Below w'.heap.size w' w''))
    (HE : Hid (∀ w', Below w.heap.size w w' → Calls Try.prog 42 #[.agg #[.int .i64 xk, .int .i64 xo, .slice xa xn xc, .int .i64 xr, .int .i64 xw, .bool xb, .int .i64 xm, .int .i64 xu, .int .i64 xg, .int .i64 xd, .int .i64 xq, .bool xy], NV] w' fun e w'' => e = .returned (.bool NB) ∧ Below w'.heap.size w' w''))
    (HW : Hid (∀ w', Below w.heap.size w w' → Calls Try.prog 70 #[.agg #[.int .i64 xk, .int .i64 xo, .slice xa xn xc, .int .i64 xr, .int .i64 xw, .bool xb, .int .i64 xm, .int .i64 xu, .int .i64 xg, .int .i64 xd, .int .i64 xq, .bool xy]] w' fun e w'' => wrPost ps w' e w'')) :
    Calls Try.prog 40 #[.agg #[.int .i64 xk, .int .i64 xo, .slice xa xn xc, .int .i64 xr, .int .i64 xw, .bool xb, .int .i64 xm, .int .i64 xu, .int .i64 xg, .int .i64 xd, .int .i64 xq, .bool xy]] w fun e w' => e = .returned (.bool (false)) ∧ Below w.heap.size w w' := by
  have hn1' : ¬ (xn : Int) < 1 := by omega
  have hn1b : decide ((xn : Int) < 1) = false := decide_eq_false hn1'
  have hn2' : (60 : Int) < xn := by omega
  have hn2b : decide ((60 : Int) < xn) = true := decide_eq_true hn2'
  have hx0 : (w.alloc (.cells #[.int .i64 xk, .int .i64 xo, .slice xa xn xc, .int .i64 xr, .int .i64 xw, .bool xb, .int .i64 xm, .int .i64 xu, .int .i64 xg, .int .i64 xd, .int .i64 xq, .bool xy] 55)).heap[w.heap.size]? = some (.cells #[.int .i64 xk, .int .i64 xo, .slice xa xn xc, .int .i64 xr, .int .i64 xw, .bool xb, .int .i64 xm, .int .i64 xu, .int .i64 xg, .int .i64 xd, .int .i64 xq, .bool xy] 55 (0, 0)) := heap_alloc_new _ _
  have hx : (w.alloc (.cells #[.int .i64 xk, .int .i64 xo, .slice xa xn xc, .int .i64 xr, .int .i64 xw, .bool xb, .int .i64 xm, .int .i64 xu, .int .i64 xg, .int .i64 xd, .int .i64 xq, .bool xy] 55)).drew.heap[w.heap.size]? = some (.cells #[.int .i64 xk, .int .i64 xo, .slice xa xn xc, .int .i64 xr, .int .i64 xw, .bool xb, .int .i64 xm, .int .i64 xu, .int .i64 xg, .int .i64 xd, .int .i64 xq, .bool xy] 55 (0, 0)) := hx0
  go_enter Try.func40, Try.ntmps40
  go_wp2_with fail
  refine wp_region_held_drew (S := fun w' => w'.heap[w.heap.size]? = some (.cells #[.int .i64 xk, .int .i64 xo, .slice xa xn xc, .int .i64 xr, .int .i64 xw, .bool xb, .int .i64 xm, .int .i64 xu, .int .i64 xg, .int .i64 xd, .int .i64 xq, .bool xy] 55 (0, 0))) (by kernel_rfl) hx (fun hHeld => ?_)
  refine wpAnyH_take (i := 0) (v := .pointer (some ⟨w.heap.size, 0, none⟩)) rfl (by kernel_rfl) (by kernel_rfl) (by kernel_rfl) (fun _ _ _ h => h) (Or.inl ⟨by kernel_rfl, ?_⟩) (by assumption) ?_
  · intro w' hSw
    (try dsimp only at hSw)
    have kk0 : w'.cell? ⟨w.heap.size, 0, none⟩ = some (.int .i64 xk) := by simp [World.cell?, hSw]
    have kk2 : w'.cell? ⟨w.heap.size, 2, none⟩ = some (.slice xa xn xc) := by simp [World.cell?, hSw]
    go_simp
  (try simp only [Act.put, List.getElem_toArray, List.getElem_cons_zero, List.getElem_cons_succ, List.setIfInBounds_toArray, List.set_cons_zero, List.set_cons_succ])
  refine wpAnyH_take (i := 1) (v := .int .i64 xk) rfl (by kernel_rfl) (by kernel_rfl) (by kernel_rfl) (fun _ _ _ h => h) (Or.inl ⟨by kernel_rfl, ?_⟩) (by assumption) ?_
  · intro w' hSw
    (try dsimp only at hSw)
    have kk0 : w'.cell? ⟨w.heap.size, 0, none⟩ = some (.int .i64 xk) := by simp [World.cell?, hSw]
    have kk2 : w'.cell? ⟨w.heap.size, 2, none⟩ = some (.slice xa xn xc) := by simp [World.cell?, hSw]
    go_simp
  (try simp only [Act.put, List.getElem_toArray, List.getElem_cons_zero, List.getElem_cons_succ, List.setIfInBounds_toArray, List.set_cons_zero, List.set_cons_succ])
  refine wpAnyH_take (i := 2) (v := .bool true) rfl (by kernel_rfl) (by kernel_rfl) (by kernel_rfl) (fun _ _ _ h => h) (Or.inl ⟨by kernel_rfl, ?_⟩) (by assumption) ?_
  · intro w' hSw
    (try dsimp only at hSw)
    have kk0 : w'.cell? ⟨w.heap.size, 0, none⟩ = some (.int .i64 xk) := by simp [World.cell?, hSw]
    have kk2 : w'.cell? ⟨w.heap.size, 2, none⟩ = some (.slice xa xn xc) := by simp [World.cell?, hSw]
    go_simp
  (try simp only [Act.put, List.getElem_toArray, List.getElem_cons_zero, List.getElem_cons_succ, List.setIfInBounds_toArray, List.set_cons_zero, List.set_cons_succ])
  refine wpAnyH_take (i := 3) (v := .bool true) rfl (by kernel_rfl) (by kernel_rfl) (by kernel_rfl) (fun _ _ _ h => h) (Or.inl ⟨by kernel_rfl, ?_⟩) (by assumption) ?_
  · intro w' hSw
    (try dsimp only at hSw)
    have kk0 : w'.cell? ⟨w.heap.size, 0, none⟩ = some (.int .i64 xk) := by simp [World.cell?, hSw]
    have kk2 : w'.cell? ⟨w.heap.size, 2, none⟩ = some (.slice xa xn xc) := by simp [World.cell?, hSw]
    go_simp
  (try simp only [Act.put, List.getElem_toArray, List.getElem_cons_zero, List.getElem_cons_succ, List.setIfInBounds_toArray, List.set_cons_zero, List.set_cons_succ])
  refine wpAnyH_take (i := 4) (v := .pointer (some ⟨w.heap.size, 2, none⟩)) rfl (by kernel_rfl) (by kernel_rfl) (by kernel_rfl) (fun _ _ _ h => h) (Or.inl ⟨by kernel_rfl, ?_⟩) (by assumption) ?_
  · intro w' hSw
    (try dsimp only at hSw)
    have kk0 : w'.cell? ⟨w.heap.size, 0, none⟩ = some (.int .i64 xk) := by simp [World.cell?, hSw]
    have kk2 : w'.cell? ⟨w.heap.size, 2, none⟩ = some (.slice xa xn xc) := by simp [World.cell?, hSw]
    go_simp
  (try simp only [Act.put, List.getElem_toArray, List.getElem_cons_zero, List.getElem_cons_succ, List.setIfInBounds_toArray, List.set_cons_zero, List.set_cons_succ])
  refine wpAnyH_take (i := 5) (v := .slice xa xn xc) rfl (by kernel_rfl) (by kernel_rfl) (by kernel_rfl) (fun _ _ _ h => h) (Or.inl ⟨by kernel_rfl, ?_⟩) (by assumption) ?_
  · intro w' hSw
    (try dsimp only at hSw)
    have kk0 : w'.cell? ⟨w.heap.size, 0, none⟩ = some (.int .i64 xk) := by simp [World.cell?, hSw]
    have kk2 : w'.cell? ⟨w.heap.size, 2, none⟩ = some (.slice xa xn xc) := by simp [World.cell?, hSw]
    go_simp
  (try simp only [Act.put, List.getElem_toArray, List.getElem_cons_zero, List.getElem_cons_succ, List.setIfInBounds_toArray, List.set_cons_zero, List.set_cons_succ])
  refine wpAnyH_take (i := 6) (v := .int .i64 xn) rfl (by kernel_rfl) (by kernel_rfl) (by kernel_rfl) (fun _ _ _ h => h) (Or.inl ⟨by kernel_rfl, ?_⟩) (by assumption) ?_
  · intro w' hSw
    (try dsimp only at hSw)
    have kk0 : w'.cell? ⟨w.heap.size, 0, none⟩ = some (.int .i64 xk) := by simp [World.cell?, hSw]
    have kk2 : w'.cell? ⟨w.heap.size, 2, none⟩ = some (.slice xa xn xc) := by simp [World.cell?, hSw]
    go_simp
  (try simp only [Act.put, List.getElem_toArray, List.getElem_cons_zero, List.getElem_cons_succ, List.setIfInBounds_toArray, List.set_cons_zero, List.set_cons_succ])
  refine wpAnyH_take (i := 7) (v := .bool false) rfl (by kernel_rfl) (by kernel_rfl) (by kernel_rfl) (fun _ _ _ h => h) (Or.inl ⟨by kernel_rfl, ?_⟩) (by assumption) ?_
  · intro w' hSw
    (try dsimp only at hSw)
    have kk0 : w'.cell? ⟨w.heap.size, 0, none⟩ = some (.int .i64 xk) := by simp [World.cell?, hSw]
    have kk2 : w'.cell? ⟨w.heap.size, 2, none⟩ = some (.slice xa xn xc) := by simp [World.cell?, hSw]
    go_simp
  (try simp only [Act.put, List.getElem_toArray, List.getElem_cons_zero, List.getElem_cons_succ, List.setIfInBounds_toArray, List.set_cons_zero, List.set_cons_succ])
  refine wpAnyH_take (i := 8) (v := .bool false) rfl (by kernel_rfl) (by kernel_rfl) (by kernel_rfl) (fun _ _ _ h => h) (Or.inl ⟨by kernel_rfl, ?_⟩) (by assumption) ?_
  · intro w' hSw
    (try dsimp only at hSw)
    have kk0 : w'.cell? ⟨w.heap.size, 0, none⟩ = some (.int .i64 xk) := by simp [World.cell?, hSw]
    have kk2 : w'.cell? ⟨w.heap.size, 2, none⟩ = some (.slice xa xn xc) := by simp [World.cell?, hSw]
    go_simp
  (try simp only [Act.put, List.getElem_toArray, List.getElem_cons_zero, List.getElem_cons_succ, List.setIfInBounds_toArray, List.set_cons_zero, List.set_cons_succ])
  refine wpAnyH_take (i := 9) (v := .pointer (some ⟨w.heap.size, 2, none⟩)) rfl (by kernel_rfl) (by kernel_rfl) (by kernel_rfl) (fun _ _ _ h => h) (Or.inl ⟨by kernel_rfl, ?_⟩) (by assumption) ?_
  · intro w' hSw
    (try dsimp only at hSw)
    have kk0 : w'.cell? ⟨w.heap.size, 0, none⟩ = some (.int .i64 xk) := by simp [World.cell?, hSw]
    have kk2 : w'.cell? ⟨w.heap.size, 2, none⟩ = some (.slice xa xn xc) := by simp [World.cell?, hSw]
    go_simp
  (try simp only [Act.put, List.getElem_toArray, List.getElem_cons_zero, List.getElem_cons_succ, List.setIfInBounds_toArray, List.set_cons_zero, List.set_cons_succ])
  refine wpAnyH_take (i := 10) (v := .slice xa xn xc) rfl (by kernel_rfl) (by kernel_rfl) (by kernel_rfl) (fun _ _ _ h => h) (Or.inl ⟨by kernel_rfl, ?_⟩) (by assumption) ?_
  · intro w' hSw
    (try dsimp only at hSw)
    have kk0 : w'.cell? ⟨w.heap.size, 0, none⟩ = some (.int .i64 xk) := by simp [World.cell?, hSw]
    have kk2 : w'.cell? ⟨w.heap.size, 2, none⟩ = some (.slice xa xn xc) := by simp [World.cell?, hSw]
    go_simp
  (try simp only [Act.put, List.getElem_toArray, List.getElem_cons_zero, List.getElem_cons_succ, List.setIfInBounds_toArray, List.set_cons_zero, List.set_cons_succ])
  refine wpAnyH_take (i := 11) (v := .int .i64 xn) rfl (by kernel_rfl) (by kernel_rfl) (by kernel_rfl) (fun _ _ _ h => h) (Or.inl ⟨by kernel_rfl, ?_⟩) (by assumption) ?_
  · intro w' hSw
    (try dsimp only at hSw)
    have kk0 : w'.cell? ⟨w.heap.size, 0, none⟩ = some (.int .i64 xk) := by simp [World.cell?, hSw]
    have kk2 : w'.cell? ⟨w.heap.size, 2, none⟩ = some (.slice xa xn xc) := by simp [World.cell?, hSw]
    go_simp
  (try simp only [Act.put, List.getElem_toArray, List.getElem_cons_zero, List.getElem_cons_succ, List.setIfInBounds_toArray, List.set_cons_zero, List.set_cons_succ])
  refine wpAnyH_take (i := 12) (v := .bool true) rfl (by kernel_rfl) (by kernel_rfl) (by kernel_rfl) (fun _ _ _ h => h) (Or.inl ⟨by kernel_rfl, ?_⟩) (by assumption) ?_
  · intro w' hSw
    (try dsimp only at hSw)
    have kk0 : w'.cell? ⟨w.heap.size, 0, none⟩ = some (.int .i64 xk) := by simp [World.cell?, hSw]
    have kk2 : w'.cell? ⟨w.heap.size, 2, none⟩ = some (.slice xa xn xc) := by simp [World.cell?, hSw]
    go_simp
  (try simp only [Act.put, List.getElem_toArray, List.getElem_cons_zero, List.getElem_cons_succ, List.setIfInBounds_toArray, List.set_cons_zero, List.set_cons_succ])
  refine wpAnyH_take (i := 13) (v := .bool true) rfl (by kernel_rfl) (by kernel_rfl) (by kernel_rfl) (fun _ _ _ h => h) (Or.inl ⟨by kernel_rfl, ?_⟩) (by assumption) ?_
  · intro w' hSw
    (try dsimp only at hSw)
    have kk0 : w'.cell? ⟨w.heap.size, 0, none⟩ = some (.int .i64 xk) := by simp [World.cell?, hSw]
    have kk2 : w'.cell? ⟨w.heap.size, 2, none⟩ = some (.slice xa xn xc) := by simp [World.cell?, hSw]
    go_simp
  (try simp only [Act.put, List.getElem_toArray, List.getElem_cons_zero, List.getElem_cons_succ, List.setIfInBounds_toArray, List.set_cons_zero, List.set_cons_succ])
  refine wpAnyH_take (i := 14) (v := .bool true) rfl (by kernel_rfl) (by kernel_rfl) (by kernel_rfl) (fun _ _ _ h => h) (Or.inl ⟨by kernel_rfl, ?_⟩) (by assumption) ?_
  · intro w' hSw
    (try dsimp only at hSw)
    have kk0 : w'.cell? ⟨w.heap.size, 0, none⟩ = some (.int .i64 xk) := by simp [World.cell?, hSw]
    have kk2 : w'.cell? ⟨w.heap.size, 2, none⟩ = some (.slice xa xn xc) := by simp [World.cell?, hSw]
    go_simp
  (try simp only [Act.put, List.getElem_toArray, List.getElem_cons_zero, List.getElem_cons_succ, List.setIfInBounds_toArray, List.set_cons_zero, List.set_cons_succ])
  refine wpAnyH_take (i := 15) (v := .bool true) rfl (by kernel_rfl) (by kernel_rfl) (by kernel_rfl) (fun _ _ _ h => h) (Or.inl ⟨by kernel_rfl, ?_⟩) (by assumption) ?_
  · intro w' hSw
    (try dsimp only at hSw)
    have kk0 : w'.cell? ⟨w.heap.size, 0, none⟩ = some (.int .i64 xk) := by simp [World.cell?, hSw]
    have kk2 : w'.cell? ⟨w.heap.size, 2, none⟩ = some (.slice xa xn xc) := by simp [World.cell?, hSw]
    go_simp
  (try simp only [Act.put, List.getElem_toArray, List.getElem_cons_zero, List.getElem_cons_succ, List.setIfInBounds_toArray, List.set_cons_zero, List.set_cons_succ])
  refine wpAnyH_take (i := 16) (v := undef) rfl (by kernel_rfl) (by kernel_rfl) (by kernel_rfl) (fun _ _ _ h => h) (Or.inr ⟨by kernel_rfl, rfl⟩) (by assumption) ?_
  (try simp only [Act.put, List.getElem_toArray, List.getElem_cons_zero, List.getElem_cons_succ, List.setIfInBounds_toArray, List.set_cons_zero, List.set_cons_succ])
  refine wpAnyH_take (i := 17) (v := undef) rfl (by kernel_rfl) (by kernel_rfl) (by kernel_rfl) (fun _ _ _ h => h) (Or.inr ⟨by kernel_rfl, rfl⟩) (by assumption) ?_
  (try simp only [Act.put, List.getElem_toArray, List.getElem_cons_zero, List.getElem_cons_succ, List.setIfInBounds_toArray, List.set_cons_zero, List.set_cons_succ])
  refine wpAnyH_take (i := 18) (v := undef) rfl (by kernel_rfl) (by kernel_rfl) (by kernel_rfl) (fun _ _ _ h => h) (Or.inr ⟨by kernel_rfl, rfl⟩) (by assumption) ?_
  (try simp only [Act.put, List.getElem_toArray, List.getElem_cons_zero, List.getElem_cons_succ, List.setIfInBounds_toArray, List.set_cons_zero, List.set_cons_succ])
  refine wpAnyH_take (i := 19) (v := undef) rfl (by kernel_rfl) (by kernel_rfl) (by kernel_rfl) (fun _ _ _ h => h) (Or.inr ⟨by kernel_rfl, rfl⟩) (by assumption) ?_
  (try simp only [Act.put, List.getElem_toArray, List.getElem_cons_zero, List.getElem_cons_succ, List.setIfInBounds_toArray, List.set_cons_zero, List.set_cons_succ])
  refine wpAnyH_take (i := 20) (v := undef) rfl (by kernel_rfl) (by kernel_rfl) (by kernel_rfl) (fun _ _ _ h => h) (Or.inr ⟨by kernel_rfl, rfl⟩) (by assumption) ?_
  (try simp only [Act.put, List.getElem_toArray, List.getElem_cons_zero, List.getElem_cons_succ, List.setIfInBounds_toArray, List.set_cons_zero, List.set_cons_succ])
  refine wpAnyH_take (i := 21) (v := .bool true) rfl (by kernel_rfl) (by kernel_rfl) (by kernel_rfl) (fun _ _ _ h => h) (Or.inl ⟨by kernel_rfl, ?_⟩) (by assumption) ?_
  · intro w' hSw
    (try dsimp only at hSw)
    have kk0 : w'.cell? ⟨w.heap.size, 0, none⟩ = some (.int .i64 xk) := by simp [World.cell?, hSw]
    have kk2 : w'.cell? ⟨w.heap.size, 2, none⟩ = some (.slice xa xn xc) := by simp [World.cell?, hSw]
    go_simp
  (try simp only [Act.put, List.getElem_toArray, List.getElem_cons_zero, List.getElem_cons_succ, List.setIfInBounds_toArray, List.set_cons_zero, List.set_cons_succ])
  refine wpAnyH_done (by kernel_rfl) ?_ _
  clear hx hx0 hHeld
  go_wp2_with fail
  go_ret
  exact ⟨rfl, ((Below.refl w.heap.size w).alloc (Nat.le_refl _) _).drew⟩

set_option maxRecDepth 100000 in
set_option maxHeartbeats 3200000 in
theorem formed_D (xk xo xr xw xm xu xg xd xq : Int) (xb xy : Bool) (xa : Option Addr) (xn xc : Nat) (xF : Nat → Int) (w : World) (NV : Value) (NB : Bool) (ps : List (Int × Nat)) (h1 : (xk == 1) = true) (hn1 : ¬ xn < 1) (hn2 : ¬ 60 < xn)
    (HN : Hid (∀ w', Calls Try.prog 71 #[.agg #[.int .i64 xk, .int .i64 xo, .slice xa xn xc, .int .i64 xr, .int .i64 xw, .bool xb, .int .i64 xm, .int .i64 xu, .int .i64 xg, .int .i64 xd, .int .i64 xq, .bool xy]] w' fun e w'' => e = .returned NV ∧ Below w'.heap.size w' w''))
    (HE : Hid (∀ w', Below w.heap.size w w' → Calls Try.prog 42 #[.agg #[.int .i64 xk, .int .i64 xo, .slice xa xn xc, .int .i64 xr, .int .i64 xw, .bool xb, .int .i64 xm, .int .i64 xu, .int .i64 xg, .int .i64 xd, .int .i64 xq, .bool xy], NV] w' fun e w'' => e = .returned (.bool NB) ∧ Below w'.heap.size w' w''))
    (HW : Hid (∀ w', Below w.heap.size w w' → Calls Try.prog 70 #[.agg #[.int .i64 xk, .int .i64 xo, .slice xa xn xc, .int .i64 xr, .int .i64 xw, .bool xb, .int .i64 xm, .int .i64 xu, .int .i64 xg, .int .i64 xd, .int .i64 xq, .bool xy]] w' fun e w'' => wrPost ps w' e w'')) :
    Calls Try.prog 40 #[.agg #[.int .i64 xk, .int .i64 xo, .slice xa xn xc, .int .i64 xr, .int .i64 xw, .bool xb, .int .i64 xm, .int .i64 xu, .int .i64 xg, .int .i64 xd, .int .i64 xq, .bool xy]] w fun e w' => e = .returned (.bool (NB && ps.all goodP)) ∧ Below w.heap.size w w' := by
  have hn1' : ¬ (xn : Int) < 1 := by omega
  have hn1b : decide ((xn : Int) < 1) = false := decide_eq_false hn1'
  have hn2' : ¬ (60 : Int) < xn := by omega
  have hn2b : decide ((60 : Int) < xn) = false := decide_eq_false hn2'
  generalize hPG : ps.all goodP = PG
  replace hPG := Lib.hid hPG
  have hx0 : (w.alloc (.cells #[.int .i64 xk, .int .i64 xo, .slice xa xn xc, .int .i64 xr, .int .i64 xw, .bool xb, .int .i64 xm, .int .i64 xu, .int .i64 xg, .int .i64 xd, .int .i64 xq, .bool xy] 55)).heap[w.heap.size]? = some (.cells #[.int .i64 xk, .int .i64 xo, .slice xa xn xc, .int .i64 xr, .int .i64 xw, .bool xb, .int .i64 xm, .int .i64 xu, .int .i64 xg, .int .i64 xd, .int .i64 xq, .bool xy] 55 (0, 0)) := heap_alloc_new _ _
  have hx : (w.alloc (.cells #[.int .i64 xk, .int .i64 xo, .slice xa xn xc, .int .i64 xr, .int .i64 xw, .bool xb, .int .i64 xm, .int .i64 xu, .int .i64 xg, .int .i64 xd, .int .i64 xq, .bool xy] 55)).drew.heap[w.heap.size]? = some (.cells #[.int .i64 xk, .int .i64 xo, .slice xa xn xc, .int .i64 xr, .int .i64 xw, .bool xb, .int .i64 xm, .int .i64 xu, .int .i64 xg, .int .i64 xd, .int .i64 xq, .bool xy] 55 (0, 0)) := hx0
  go_enter Try.func40, Try.ntmps40
  go_wp2_with fail
  refine wp_region_held_drew (S := fun w' => w'.heap[w.heap.size]? = some (.cells #[.int .i64 xk, .int .i64 xo, .slice xa xn xc, .int .i64 xr, .int .i64 xw, .bool xb, .int .i64 xm, .int .i64 xu, .int .i64 xg, .int .i64 xd, .int .i64 xq, .bool xy] 55 (0, 0))) (by kernel_rfl) hx (fun hHeld => ?_)
  refine wpAnyH_take (i := 0) (v := .pointer (some ⟨w.heap.size, 0, none⟩)) rfl (by kernel_rfl) (by kernel_rfl) (by kernel_rfl) (fun _ _ _ h => h) (Or.inl ⟨by kernel_rfl, ?_⟩) (by assumption) ?_
  · intro w' hSw
    (try dsimp only at hSw)
    have kk0 : w'.cell? ⟨w.heap.size, 0, none⟩ = some (.int .i64 xk) := by simp [World.cell?, hSw]
    have kk2 : w'.cell? ⟨w.heap.size, 2, none⟩ = some (.slice xa xn xc) := by simp [World.cell?, hSw]
    go_simp
  (try simp only [Act.put, List.getElem_toArray, List.getElem_cons_zero, List.getElem_cons_succ, List.setIfInBounds_toArray, List.set_cons_zero, List.set_cons_succ])
  refine wpAnyH_take (i := 1) (v := .int .i64 xk) rfl (by kernel_rfl) (by kernel_rfl) (by kernel_rfl) (fun _ _ _ h => h) (Or.inl ⟨by kernel_rfl, ?_⟩) (by assumption) ?_
  · intro w' hSw
    (try dsimp only at hSw)
    have kk0 : w'.cell? ⟨w.heap.size, 0, none⟩ = some (.int .i64 xk) := by simp [World.cell?, hSw]
    have kk2 : w'.cell? ⟨w.heap.size, 2, none⟩ = some (.slice xa xn xc) := by simp [World.cell?, hSw]
    go_simp
  (try simp only [Act.put, List.getElem_toArray, List.getElem_cons_zero, List.getElem_cons_succ, List.setIfInBounds_toArray, List.set_cons_zero, List.set_cons_succ])
  refine wpAnyH_take (i := 2) (v := .bool true) rfl (by kernel_rfl) (by kernel_rfl) (by kernel_rfl) (fun _ _ _ h => h) (Or.inl ⟨by kernel_rfl, ?_⟩) (by assumption) ?_
  · intro w' hSw
    (try dsimp only at hSw)
    have kk0 : w'.cell? ⟨w.heap.size, 0, none⟩ = some (.int .i64 xk) := by simp [World.cell?, hSw]
    have kk2 : w'.cell? ⟨w.heap.size, 2, none⟩ = some (.slice xa xn xc) := by simp [World.cell?, hSw]
    go_simp
  (try simp only [Act.put, List.getElem_toArray, List.getElem_cons_zero, List.getElem_cons_succ, List.setIfInBounds_toArray, List.set_cons_zero, List.set_cons_succ])
  refine wpAnyH_take (i := 3) (v := .bool true) rfl (by kernel_rfl) (by kernel_rfl) (by kernel_rfl) (fun _ _ _ h => h) (Or.inl ⟨by kernel_rfl, ?_⟩) (by assumption) ?_
  · intro w' hSw
    (try dsimp only at hSw)
    have kk0 : w'.cell? ⟨w.heap.size, 0, none⟩ = some (.int .i64 xk) := by simp [World.cell?, hSw]
    have kk2 : w'.cell? ⟨w.heap.size, 2, none⟩ = some (.slice xa xn xc) := by simp [World.cell?, hSw]
    go_simp
  (try simp only [Act.put, List.getElem_toArray, List.getElem_cons_zero, List.getElem_cons_succ, List.setIfInBounds_toArray, List.set_cons_zero, List.set_cons_succ])
  refine wpAnyH_take (i := 4) (v := .pointer (some ⟨w.heap.size, 2, none⟩)) rfl (by kernel_rfl) (by kernel_rfl) (by kernel_rfl) (fun _ _ _ h => h) (Or.inl ⟨by kernel_rfl, ?_⟩) (by assumption) ?_
  · intro w' hSw
    (try dsimp only at hSw)
    have kk0 : w'.cell? ⟨w.heap.size, 0, none⟩ = some (.int .i64 xk) := by simp [World.cell?, hSw]
    have kk2 : w'.cell? ⟨w.heap.size, 2, none⟩ = some (.slice xa xn xc) := by simp [World.cell?, hSw]
    go_simp
  (try simp only [Act.put, List.getElem_toArray, List.getElem_cons_zero, List.getElem_cons_succ, List.setIfInBounds_toArray, List.set_cons_zero, List.set_cons_succ])
  refine wpAnyH_take (i := 5) (v := .slice xa xn xc) rfl (by kernel_rfl) (by kernel_rfl) (by kernel_rfl) (fun _ _ _ h => h) (Or.inl ⟨by kernel_rfl, ?_⟩) (by assumption) ?_
  · intro w' hSw
    (try dsimp only at hSw)
    have kk0 : w'.cell? ⟨w.heap.size, 0, none⟩ = some (.int .i64 xk) := by simp [World.cell?, hSw]
    have kk2 : w'.cell? ⟨w.heap.size, 2, none⟩ = some (.slice xa xn xc) := by simp [World.cell?, hSw]
    go_simp
  (try simp only [Act.put, List.getElem_toArray, List.getElem_cons_zero, List.getElem_cons_succ, List.setIfInBounds_toArray, List.set_cons_zero, List.set_cons_succ])
  refine wpAnyH_take (i := 6) (v := .int .i64 xn) rfl (by kernel_rfl) (by kernel_rfl) (by kernel_rfl) (fun _ _ _ h => h) (Or.inl ⟨by kernel_rfl, ?_⟩) (by assumption) ?_
  · intro w' hSw
    (try dsimp only at hSw)
    have kk0 : w'.cell? ⟨w.heap.size, 0, none⟩ = some (.int .i64 xk) := by simp [World.cell?, hSw]
    have kk2 : w'.cell? ⟨w.heap.size, 2, none⟩ = some (.slice xa xn xc) := by simp [World.cell?, hSw]
    go_simp
  (try simp only [Act.put, List.getElem_toArray, List.getElem_cons_zero, List.getElem_cons_succ, List.setIfInBounds_toArray, List.set_cons_zero, List.set_cons_succ])
  refine wpAnyH_take (i := 7) (v := .bool false) rfl (by kernel_rfl) (by kernel_rfl) (by kernel_rfl) (fun _ _ _ h => h) (Or.inl ⟨by kernel_rfl, ?_⟩) (by assumption) ?_
  · intro w' hSw
    (try dsimp only at hSw)
    have kk0 : w'.cell? ⟨w.heap.size, 0, none⟩ = some (.int .i64 xk) := by simp [World.cell?, hSw]
    have kk2 : w'.cell? ⟨w.heap.size, 2, none⟩ = some (.slice xa xn xc) := by simp [World.cell?, hSw]
    go_simp
  (try simp only [Act.put, List.getElem_toArray, List.getElem_cons_zero, List.getElem_cons_succ, List.setIfInBounds_toArray, List.set_cons_zero, List.set_cons_succ])
  refine wpAnyH_take (i := 8) (v := .bool false) rfl (by kernel_rfl) (by kernel_rfl) (by kernel_rfl) (fun _ _ _ h => h) (Or.inl ⟨by kernel_rfl, ?_⟩) (by assumption) ?_
  · intro w' hSw
    (try dsimp only at hSw)
    have kk0 : w'.cell? ⟨w.heap.size, 0, none⟩ = some (.int .i64 xk) := by simp [World.cell?, hSw]
    have kk2 : w'.cell? ⟨w.heap.size, 2, none⟩ = some (.slice xa xn xc) := by simp [World.cell?, hSw]
    go_simp
  (try simp only [Act.put, List.getElem_toArray, List.getElem_cons_zero, List.getElem_cons_succ, List.setIfInBounds_toArray, List.set_cons_zero, List.set_cons_succ])
  refine wpAnyH_take (i := 9) (v := .pointer (some ⟨w.heap.size, 2, none⟩)) rfl (by kernel_rfl) (by kernel_rfl) (by kernel_rfl) (fun _ _ _ h => h) (Or.inl ⟨by kernel_rfl, ?_⟩) (by assumption) ?_
  · intro w' hSw
    (try dsimp only at hSw)
    have kk0 : w'.cell? ⟨w.heap.size, 0, none⟩ = some (.int .i64 xk) := by simp [World.cell?, hSw]
    have kk2 : w'.cell? ⟨w.heap.size, 2, none⟩ = some (.slice xa xn xc) := by simp [World.cell?, hSw]
    go_simp
  (try simp only [Act.put, List.getElem_toArray, List.getElem_cons_zero, List.getElem_cons_succ, List.setIfInBounds_toArray, List.set_cons_zero, List.set_cons_succ])
  refine wpAnyH_take (i := 10) (v := .slice xa xn xc) rfl (by kernel_rfl) (by kernel_rfl) (by kernel_rfl) (fun _ _ _ h => h) (Or.inl ⟨by kernel_rfl, ?_⟩) (by assumption) ?_
  · intro w' hSw
    (try dsimp only at hSw)
    have kk0 : w'.cell? ⟨w.heap.size, 0, none⟩ = some (.int .i64 xk) := by simp [World.cell?, hSw]
    have kk2 : w'.cell? ⟨w.heap.size, 2, none⟩ = some (.slice xa xn xc) := by simp [World.cell?, hSw]
    go_simp
  (try simp only [Act.put, List.getElem_toArray, List.getElem_cons_zero, List.getElem_cons_succ, List.setIfInBounds_toArray, List.set_cons_zero, List.set_cons_succ])
  refine wpAnyH_take (i := 11) (v := .int .i64 xn) rfl (by kernel_rfl) (by kernel_rfl) (by kernel_rfl) (fun _ _ _ h => h) (Or.inl ⟨by kernel_rfl, ?_⟩) (by assumption) ?_
  · intro w' hSw
    (try dsimp only at hSw)
    have kk0 : w'.cell? ⟨w.heap.size, 0, none⟩ = some (.int .i64 xk) := by simp [World.cell?, hSw]
    have kk2 : w'.cell? ⟨w.heap.size, 2, none⟩ = some (.slice xa xn xc) := by simp [World.cell?, hSw]
    go_simp
  (try simp only [Act.put, List.getElem_toArray, List.getElem_cons_zero, List.getElem_cons_succ, List.setIfInBounds_toArray, List.set_cons_zero, List.set_cons_succ])
  refine wpAnyH_take (i := 12) (v := .bool false) rfl (by kernel_rfl) (by kernel_rfl) (by kernel_rfl) (fun _ _ _ h => h) (Or.inl ⟨by kernel_rfl, ?_⟩) (by assumption) ?_
  · intro w' hSw
    (try dsimp only at hSw)
    have kk0 : w'.cell? ⟨w.heap.size, 0, none⟩ = some (.int .i64 xk) := by simp [World.cell?, hSw]
    have kk2 : w'.cell? ⟨w.heap.size, 2, none⟩ = some (.slice xa xn xc) := by simp [World.cell?, hSw]
    go_simp
  (try simp only [Act.put, List.getElem_toArray, List.getElem_cons_zero, List.getElem_cons_succ, List.setIfInBounds_toArray, List.set_cons_zero, List.set_cons_succ])
  refine wpAnyH_take (i := 13) (v := .bool false) rfl (by kernel_rfl) (by kernel_rfl) (by kernel_rfl) (fun _ _ _ h => h) (Or.inl ⟨by kernel_rfl, ?_⟩) (by assumption) ?_
  · intro w' hSw
    (try dsimp only at hSw)
    have kk0 : w'.cell? ⟨w.heap.size, 0, none⟩ = some (.int .i64 xk) := by simp [World.cell?, hSw]
    have kk2 : w'.cell? ⟨w.heap.size, 2, none⟩ = some (.slice xa xn xc) := by simp [World.cell?, hSw]
    go_simp
  (try simp only [Act.put, List.getElem_toArray, List.getElem_cons_zero, List.getElem_cons_succ, List.setIfInBounds_toArray, List.set_cons_zero, List.set_cons_succ])
  refine wpAnyH_take (i := 14) (v := .bool false) rfl (by kernel_rfl) (by kernel_rfl) (by kernel_rfl) (fun _ _ _ h => h) (Or.inl ⟨by kernel_rfl, ?_⟩) (by assumption) ?_
  · intro w' hSw
    (try dsimp only at hSw)
    have kk0 : w'.cell? ⟨w.heap.size, 0, none⟩ = some (.int .i64 xk) := by simp [World.cell?, hSw]
    have kk2 : w'.cell? ⟨w.heap.size, 2, none⟩ = some (.slice xa xn xc) := by simp [World.cell?, hSw]
    go_simp
  (try simp only [Act.put, List.getElem_toArray, List.getElem_cons_zero, List.getElem_cons_succ, List.setIfInBounds_toArray, List.set_cons_zero, List.set_cons_succ])
  refine wpAnyH_take (i := 15) (v := .bool false) rfl (by kernel_rfl) (by kernel_rfl) (by kernel_rfl) (fun _ _ _ h => h) (Or.inl ⟨by kernel_rfl, ?_⟩) (by assumption) ?_
  · intro w' hSw
    (try dsimp only at hSw)
    have kk0 : w'.cell? ⟨w.heap.size, 0, none⟩ = some (.int .i64 xk) := by simp [World.cell?, hSw]
    have kk2 : w'.cell? ⟨w.heap.size, 2, none⟩ = some (.slice xa xn xc) := by simp [World.cell?, hSw]
    go_simp
  (try simp only [Act.put, List.getElem_toArray, List.getElem_cons_zero, List.getElem_cons_succ, List.setIfInBounds_toArray, List.set_cons_zero, List.set_cons_succ])
  refine wpAnyH_take (i := 16) (v := .agg #[.int .i64 xk, .int .i64 xo, .slice xa xn xc, .int .i64 xr, .int .i64 xw, .bool xb, .int .i64 xm, .int .i64 xu, .int .i64 xg, .int .i64 xd, .int .i64 xq, .bool xy]) rfl (by kernel_rfl) (by kernel_rfl) (by kernel_rfl) (fun _ _ _ h => h) (yieldsIf_load_mid (by kernel_rfl) 55 (.tmp 1) rfl w.heap.size 0 (by go_simp) [.int .i64 xk, .int .i64 xo, .slice xa xn xc, .int .i64 xr, .int .i64 xw, .bool xb, .int .i64 xm, .int .i64 xu, .int .i64 xg, .int .i64 xd, .int .i64 xq, .bool xy] _ (fun _ h => c_range xk xo xr xw xm xu xg xd xq xb xy xa xn xc h) Try.underlying55 rfl (by kernel_rfl)) (by assumption) ?_
  (try simp only [Act.put, List.getElem_toArray, List.getElem_cons_zero, List.getElem_cons_succ, List.setIfInBounds_toArray, List.set_cons_zero, List.set_cons_succ])
  refine wpAnyH_take (i := 17) (v := .agg #[.int .i64 xk, .int .i64 xo, .slice xa xn xc, .int .i64 xr, .int .i64 xw, .bool xb, .int .i64 xm, .int .i64 xu, .int .i64 xg, .int .i64 xd, .int .i64 xq, .bool xy]) rfl (by kernel_rfl) (by kernel_rfl) (by kernel_rfl) (fun _ _ _ h => h) (yieldsIf_load_mid (by kernel_rfl) 55 (.tmp 1) rfl w.heap.size 0 (by go_simp) [.int .i64 xk, .int .i64 xo, .slice xa xn xc, .int .i64 xr, .int .i64 xw, .bool xb, .int .i64 xm, .int .i64 xu, .int .i64 xg, .int .i64 xd, .int .i64 xq, .bool xy] _ (fun _ h => c_range xk xo xr xw xm xu xg xd xq xb xy xa xn xc h) Try.underlying55 rfl (by kernel_rfl)) (by assumption) ?_
  (try simp only [Act.put, List.getElem_toArray, List.getElem_cons_zero, List.getElem_cons_succ, List.setIfInBounds_toArray, List.set_cons_zero, List.set_cons_succ])
  refine wpAnyH_ready (rs := [18]) (by kernel_rfl) (by simp) ?_
  refine AllReadyH.cons rfl (fun K hK => ?_) AllReadyH.nil
  go_simp
  go_at_call 71
  refine (HN.out _).mono ?_
  rintro e w4 ⟨rfl, hb4⟩
  have hx4 := (hb4.block w.heap.size (by simp)).trans hx
  refine hK.out _ _ hx4 (fun hHeld2 => ?_)
  (try simp only [Act.put, List.getElem_toArray, List.getElem_cons_zero, List.getElem_cons_succ, List.setIfInBounds_toArray, List.set_cons_zero, List.set_cons_succ])
  refine wpAnyH_ready (rs := [19]) (by kernel_rfl) (by simp) ?_
  refine AllReadyH.cons rfl (fun K2 hK2 => ?_) AllReadyH.nil
  go_simp
  go_at_call 42
  have hbb := hb4.size
  have hbw4 : Below w.heap.size w w4 := (((Below.refl w.heap.size w).alloc (Nat.le_refl _) _).drew).trans (hb4.mono (by simp))
  refine (HE.out _ hbw4).mono ?_
  rintro e w5 ⟨rfl, hb5⟩
  have hx5 := (hb5.block w.heap.size (by simp at hbb; omega)).trans hx4
  refine hK2.out _ _ hx5 (fun hHeld3 => ?_)
  (try simp only [Act.put, List.getElem_toArray, List.getElem_cons_zero, List.getElem_cons_succ, List.setIfInBounds_toArray, List.set_cons_zero, List.set_cons_succ])
  refine wpAnyH_take (i := 20) (v := .bool (!NB)) rfl (by kernel_rfl) (by kernel_rfl) (by kernel_rfl) (fun _ _ _ h => h) (Or.inl ⟨by kernel_rfl, ?_⟩) (by assumption) ?_
  · intro w' hSw
    (try dsimp only at hSw)
    have kk0 : w'.cell? ⟨w.heap.size, 0, none⟩ = some (.int .i64 xk) := by simp [World.cell?, hSw]
    have kk2 : w'.cell? ⟨w.heap.size, 2, none⟩ = some (.slice xa xn xc) := by simp [World.cell?, hSw]
    go_simp
  (try simp only [Act.put, List.getElem_toArray, List.getElem_cons_zero, List.getElem_cons_succ, List.setIfInBounds_toArray, List.set_cons_zero, List.set_cons_succ])
  refine wpAnyH_take (i := 21) (v := .bool (!NB)) rfl (by kernel_rfl) (by kernel_rfl) (by kernel_rfl) (fun _ _ _ h => h) (Or.inl ⟨by kernel_rfl, ?_⟩) (by assumption) ?_
  · intro w' hSw
    (try dsimp only at hSw)
    have kk0 : w'.cell? ⟨w.heap.size, 0, none⟩ = some (.int .i64 xk) := by simp [World.cell?, hSw]
    have kk2 : w'.cell? ⟨w.heap.size, 2, none⟩ = some (.slice xa xn xc) := by simp [World.cell?, hSw]
    go_simp
  (try simp only [Act.put, List.getElem_toArray, List.getElem_cons_zero, List.getElem_cons_succ, List.setIfInBounds_toArray, List.set_cons_zero, List.set_cons_succ])
  refine wpAnyH_done (by kernel_rfl) ?_ _
  obtain ⟨k0, k1, k2, k3, k4, k5, k6, k7, k8, k9, k10, k11⟩ := cbox_cells xk xo xr xw xm xu xg xd xq xb xy xa xn xc xF hx5
  have hbw : Below w.heap.size w w5 := hbw4.trans (hb5.mono (by simp at hbb; omega))
  replace hbw := Lib.hid hbw
  clear hx hx0 hx4 hx5 hb4 hb5 hHeld hHeld2 hHeld3 hbb hbw4
  cases NB with
  | false =>
    go_wp2_with fail
    go_ret
    exact ⟨rfl, hbw.out⟩
  | true =>
    go_wp2_with fail
    refine (HW.out _ hbw.out).mono ?_
    rintro e w6 hE
    have hs := hbw.out.size
    rcases hE with ⟨hg, a9, c9, rfl, g1, g2, g3, g4, g5, g6⟩ | ⟨hg, z, hz, rfl, g6⟩
    · replace g6 := Lib.hid (hbw.out.trans (g6.mono hs))
      obtain rfl : PG = true := hPG.out.symm.trans hg
      clear g1 g2 g3 g4 g5 k0 k1 k2 k3 k4 k5 k6 k7 k8 k9 k10 k11
      go_wp2_with fail
      go_ret
      exact ⟨rfl, g6.out⟩
    · replace g6 := Lib.hid (hbw.out.trans (g6.mono hs))
      obtain rfl : PG = false := hPG.out.symm.trans hg
      have hz' : (z == 0) = false := by simpa using hz
      clear k0 k1 k2 k3 k4 k5 k6 k7 k8 k9 k10 k11 hz
      go_wp2_with fail
      go_ret
      exact ⟨by simp, g6.out⟩

theorem formed_any (xk xo xr xw xm xu xg xd xq : Int) (xb xy : Bool) (xa : Option Addr) (xn xc : Nat) (xF : Nat → Int) (w : World) (hk : xk < 9223372036854775808) (hi : bnd xo xr xw xm xu xg xd xq) (hx : IntsAt w .i64 xa xn xF) (hn : xn ≤ 1000) (hXF : ∀ j, j < xn → xF j < 9223372036854775808) :
    Calls Try.prog 40 #[.agg #[.int .i64 xk, .int .i64 xo, .slice xa xn xc, .int .i64 xr, .int .i64 xw, .bool xb, .int .i64 xm, .int .i64 xu, .int .i64 xg, .int .i64 xd, .int .i64 xq, .bool xy]] w fun e w' => e = .returned (.bool (formB xk xo xr xw xm xu xg xd xq xb xy xn xF)) ∧ Below w.heap.size w w' := by
  have HN := Lib.hid (need_any xk xo xr xw xm xu xg xd xq xb xy xa xn xc)
  have HE : Hid (∀ w', Below w.heap.size w w' → Calls Try.prog 42 #[.agg #[.int .i64 xk, .int .i64 xo, .slice xa xn xc, .int .i64 xr, .int .i64 xw, .bool xb, .int .i64 xm, .int .i64 xu, .int .i64 xg, .int .i64 xd, .int .i64 xq, .bool xy], needV xk xo xr xw xm xu xg xd xq xb xy xa xn xc] w' fun e w'' => e = .returned (.bool (needB xk xo xr xw xm xu xg xd xq xb xy xn)) ∧ Below w'.heap.size w' w'') := Lib.hid (fun w' hb => eqneed_any xk xo xr xw xm xu xg xd xq xb xy xa xn xc xF w' (hx.below hb))
  have HW : Hid (∀ w', Below w.heap.size w w' → Calls Try.prog 70 #[.agg #[.int .i64 xk, .int .i64 xo, .slice xa xn xc, .int .i64 xr, .int .i64 xw, .bool xb, .int .i64 xm, .int .i64 xu, .int .i64 xg, .int .i64 xd, .int .i64 xq, .bool xy]] w' fun e w'' => wrPost (wrP xk xo xr xw xm xu xg xd xq xb xy xn xF) w' e w'') := Lib.hid (fun w' hb => write_any xk xo xr xw xm xu xg xd xq xb xy xa xn xc xF w' hk hi (hx.below hb) hn hXF)
  cases h1 : (xk == 1)
  · have hf : formB xk xo xr xw xm xu xg xd xq xb xy xn xF = (needB xk xo xr xw xm xu xg xd xq xb xy xn && (wrP xk xo xr xw xm xu xg xd xq xb xy xn xF).all goodP) := by
      have : ¬ xk = 1 := by simpa using h1
      simp [formB, this]
    rw [hf]
    exact formed_A xk xo xr xw xm xu xg xd xq xb xy xa xn xc xF w _ _ _ h1 HN HE HW
  · have hk1 : xk = 1 := by simpa using h1
    by_cases hn1 : xn < 1
    · have hf : formB xk xo xr xw xm xu xg xd xq xb xy xn xF = false := by
        unfold formB
        rw [decide_eq_true (⟨hk1, Or.inl hn1⟩ : xk = 1 ∧ (xn < 1 ∨ 60 < xn))]
        rfl
      rw [hf]
      exact formed_B xk xo xr xw xm xu xg xd xq xb xy xa xn xc xF w _ _ _ h1 hn1 HN HE HW
    · by_cases hn2 : 60 < xn
      · have hf : formB xk xo xr xw xm xu xg xd xq xb xy xn xF = false := by
          unfold formB
          rw [decide_eq_true (⟨hk1, Or.inr hn2⟩ : xk = 1 ∧ (xn < 1 ∨ 60 < xn))]
          rfl
        rw [hf]
        exact formed_C xk xo xr xw xm xu xg xd xq xb xy xa xn xc xF w _ _ _ h1 hn1 hn2 HN HE HW
      · have hf : formB xk xo xr xw xm xu xg xd xq xb xy xn xF = (needB xk xo xr xw xm xu xg xd xq xb xy xn && (wrP xk xo xr xw xm xu xg xd xq xb xy xn xF).all goodP) := by
          have : ¬ (xk = 1 ∧ (xn < 1 ∨ 60 < xn)) := by omega
          unfold formB
          rw [decide_eq_false this]
          rfl
        rw [hf]
        exact formed_D xk xo xr xw xm xu xg xd xq xb xy xa xn xc xF w _ _ _ h1 hn1 hn2 HN HE HW

/-- What Encode gives. -/
def encPost (F : Bool) (ps : List (Int × Nat)) (w : World) (e : Ending) (w' : World) : Prop :=
  (F = true ∧ endS w (catP ps) e w') ∨ (F = false ∧ e = .returned (.tuple #[.slice none 0 0, .int .i64 1]) ∧ Below w.heap.size w w')

def goodIf (F G : Bool) : Prop := F = true → G = true
theorem formB_good (xk xo xr xw xm xu xg xd xq : Int) (xb xy : Bool) (xa : Option Addr) (xn xc : Nat) (xF : Nat → Int) (h : formB xk xo xr xw xm xu xg xd xq xb xy xn xF = true) : (wrP xk xo xr xw xm xu xg xd xq xb xy xn xF).all goodP = true := by
  simp only [formB, Bool.and_eq_true] at h
  exact h.2

set_option maxRecDepth 100000 in
set_option maxHeartbeats 3200000 in
theorem encode_any (xk xo xr xw xm xu xg xd xq : Int) (xb xy : Bool) (xa : Option Addr) (xn xc : Nat) (xF : Nat → Int) (w : World) (hk : xk < 9223372036854775808) (hi : bnd xo xr xw xm xu xg xd xq) (hx : IntsAt w .i64 xa xn xF) (hn : xn ≤ 1000) (hXF : ∀ j, j < xn → xF j < 9223372036854775808) :
    Calls Try.prog 37 #[.agg #[.int .i64 xk, .int .i64 xo, .slice xa xn xc, .int .i64 xr, .int .i64 xw, .bool xb, .int .i64 xm, .int .i64 xu, .int .i64 xg, .int .i64 xd, .int .i64 xq, .bool xy]] w fun e w' => encPost (formB xk xo xr xw xm xu xg xd xq xb xy xn xF) (wrP xk xo xr xw xm xu xg xd xq xb xy xn xF) w e w' := by
  have HF : Hid (∀ w', Below w.heap.size w w' → Calls Try.prog 40 #[.agg #[.int .i64 xk, .int .i64 xo, .slice xa xn xc, .int .i64 xr, .int .i64 xw, .bool xb, .int .i64 xm, .int .i64 xu, .int .i64 xg, .int .i64 xd, .int .i64 xq, .bool xy]] w' fun e w'' => e = .returned (.bool (formB xk xo xr xw xm xu xg xd xq xb xy xn xF)) ∧ Below w'.heap.size w' w'') := Lib.hid (fun w' hb => formed_any xk xo xr xw xm xu xg xd xq xb xy xa xn xc xF w' hk hi (hx.below hb) hn hXF)
  have HW : Hid (∀ w', Below w.heap.size w w' → Calls Try.prog 70 #[.agg #[.int .i64 xk, .int .i64 xo, .slice xa xn xc, .int .i64 xr, .int .i64 xw, .bool xb, .int .i64 xm, .int .i64 xu, .int .i64 xg, .int .i64 xd, .int .i64 xq, .bool xy]] w' fun e w'' => wrPost (wrP xk xo xr xw xm xu xg xd xq xb xy xn xF) w' e w'') := Lib.hid (fun w' hb => write_any xk xo xr xw xm xu xg xd xq xb xy xa xn xc xF w' hk hi (hx.below hb) hn hXF)
  have HG : Hid (goodIf (formB xk xo xr xw xm xu xg xd xq xb xy xn xF) ((wrP xk xo xr xw xm xu xg xd xq xb xy xn xF).all goodP)) := Lib.hid (formB_good xk xo xr xw xm xu xg xd xq xb xy xa xn xc xF)
  have hx0 : (w.alloc (.cells #[.int .i64 xk, .int .i64 xo, .slice xa xn xc, .int .i64 xr, .int .i64 xw, .bool xb, .int .i64 xm, .int .i64 xu, .int .i64 xg, .int .i64 xd, .int .i64 xq, .bool xy] 55)).heap[w.heap.size]? = some (.cells #[.int .i64 xk, .int .i64 xo, .slice xa xn xc, .int .i64 xr, .int .i64 xw, .bool xb, .int .i64 xm, .int .i64 xu, .int .i64 xg, .int .i64 xd, .int .i64 xq, .bool xy] 55 (0, 0)) := heap_alloc_new _ _
  have hb0 : Below w.heap.size w (w.alloc (.cells #[.int .i64 xk, .int .i64 xo, .slice xa xn xc, .int .i64 xr, .int .i64 xw, .bool xb, .int .i64 xm, .int .i64 xu, .int .i64 xg, .int .i64 xd, .int .i64 xq, .bool xy] 55)) := (Below.refl w.heap.size w).alloc (Nat.le_refl _) _
  replace hx0 := Lib.hid hx0
  replace hb0 := Lib.hid hb0
  generalize formB xk xo xr xw xm xu xg xd xq xb xy xn xF = FB at *
  generalize wrP xk xo xr xw xm xu xg xd xq xb xy xn xF = ps at *
  clear hx hXF hi hk hn
  go_enter Try.func37, Try.ntmps37
  go_wp2_with fail
  refine (HF.out _ hb0.out).mono ?_
  rintro e w4 ⟨rfl, hb4⟩
  have hx4 := (hb4.block w.heap.size (by simp)).trans hx0.out
  obtain ⟨k0, k1, k2, k3, k4, k5, k6, k7, k8, k9, k10, k11⟩ := cbox_cells xk xo xr xw xm xu xg xd xq xb xy xa xn xc xF hx4
  have hbw : Below w.heap.size w w4 := hb0.out.trans (hb4.mono (by simp))
  replace hbw := Lib.hid hbw
  clear hb4 hx4 hx0 hb0
  cases FB with
  | false =>
    go_wp2_with fail
    go_ret2
    exact Or.inr ⟨rfl, rfl, hbw.out⟩
  | true =>
    go_wp2_with fail
    refine (HW.out _ hbw.out).mono ?_
    rintro e w6 hE
    have hs := hbw.out.size
    clear k0 k1 k2 k3 k4 k5 k6 k7 k8 k9 k10 k11
    rcases hE with ⟨hg, a9, c9, rfl, g1, g2, g3, g4, g5, g6⟩ | ⟨hg, z, hz, rfl, g6⟩
    · replace g6 := Lib.hid (hbw.out.trans (g6.mono hs))
      replace g1 := Lib.hid g1
      replace g2 := Lib.hid g2
      replace g3 := Lib.hid g3
      replace g5 := Lib.hid g5
      go_wp2_with fail
      go_ret2
      exact Or.inl ⟨rfl, a9, c9, rfl, g1.out, g2.out, g3.out, g4, fun p e => Nat.le_trans hs (g5.out p e), g6.out⟩
    · have hgg : ps.all goodP = true := HG.out rfl
      rw [hgg] at hg
      cases hg

end Go.Proofs.Ytnkgbigjpihfeaa.Kd
