/- command.needed at every command, by its kind. -/
import Derived.Test.YtnkgbigjpihfeaaDa
import Derived.Test.YtnkgbigjpihfeaaIb
set_option linter.unusedVariables false
set_option linter.unusedSimpArgs false
namespace Go.Proofs.Ytnkgbigjpihfeaa.Kd
open Go.RowKit Go.Proofs.Ytnkgbigjpihfeaa.Lib
open Go.Proofs.Ytnkgbigjpihfeaa.Ma (alloc_keep alloc_at)

set_option maxRecDepth 100000 in
set_option maxHeartbeats 3200000 in
theorem need_1 (xk xo xr xw xm xu xg xd xq : Int) (xb xy : Bool) (xa : Option Addr) (xn xc : Nat) (w : World) :
    Calls Try.prog 71 #[.agg #[.int .i64 1, .int .i64 xo, .slice xa xn xc, .int .i64 xr, .int .i64 xw, .bool xb, .int .i64 xm, .int .i64 xu, .int .i64 xg, .int .i64 xd, .int .i64 xq, .bool xy]] w fun e w' => e = .returned (.agg #[.int .i64 1, .int .i64 xo, .slice xa xn xc, .int .i64 xr, .int .i64 xw, .bool xb, .int .i64 0, .int .i64 0, .int .i64 0, .int .i64 0, .int .i64 0, .bool false]) ∧ Below w.heap.size w w' := by
  go_enter Try.func71, Try.ntmps71
  go_wp2_with fail
  have c0 : ¬ w.heap.size + 1 + 1 = w.heap.size := by omega
  have c1 : ¬ w.heap.size + 1 + 1 = w.heap.size + 1 := by omega
  have c2 : ¬ w.heap.size + 1 = w.heap.size := by omega
  have c3 : ¬ w.heap.size = w.heap.size + 1 + 1 := by omega
  have c4 : ¬ w.heap.size = w.heap.size + 1 := by omega
  go_region_held3 (fun w' => w'.cell? ⟨w.heap.size, 1, none⟩ = some (.int .i64 xo) ∧ w'.cell? ⟨w.heap.size, 2, none⟩ = some (.slice xa xn xc) ∧ w'.cell? ⟨w.heap.size, 3, none⟩ = some (.int .i64 xr) ∧ w'.cell? ⟨w.heap.size, 4, none⟩ = some (.int .i64 xw) ∧ w'.cell? ⟨w.heap.size, 5, none⟩ = some (.bool xb)) (go_keep) (fail)
  all_goals
    go_wp2_with fail
    refine bodyPost_ret (results_cell_row (p := 2) (ty := 55) rfl _ _ (w.heap.size + 1) 55 #[.int .i64 1, .int .i64 xo, .slice xa xn xc, .int .i64 xr, .int .i64 xw, .bool xb, .int .i64 0, .int .i64 0, .int .i64 0, .int .i64 0, .int .i64 0, .bool false] (0, 0) _ (by rfl) ?_ Try.underlying55 rfl (by kernel_rfl)) rfl ⟨rfl, ?_⟩
    · exact (((Below.refl _ _).alloc (Nat.le_refl _) _).block (w.heap.size + 1) (by simp)).trans (heap_alloc2_new w _ _)
    · exact ((((Below.refl _ _).alloc (Nat.le_refl _) _).alloc (by simp) _).alloc (by simp; omega) _).drew

set_option maxRecDepth 100000 in
set_option maxHeartbeats 3200000 in
theorem need_2 (xk xo xr xw xm xu xg xd xq : Int) (xb xy : Bool) (xa : Option Addr) (xn xc : Nat) (w : World) :
    Calls Try.prog 71 #[.agg #[.int .i64 2, .int .i64 xo, .slice xa xn xc, .int .i64 xr, .int .i64 xw, .bool xb, .int .i64 xm, .int .i64 xu, .int .i64 xg, .int .i64 xd, .int .i64 xq, .bool xy]] w fun e w' => e = .returned (.agg #[.int .i64 2, .int .i64 0, .slice none 0 0, .int .i64 0, .int .i64 0, .bool false, .int .i64 xm, .int .i64 0, .int .i64 0, .int .i64 0, .int .i64 0, .bool false]) ∧ Below w.heap.size w w' := by
  go_enter Try.func71, Try.ntmps71
  go_wp2_with fail
  refine bodyPost_ret (results_cell_row (p := 2) (ty := 55) rfl _ _ (w.heap.size + 1) 55 #[.int .i64 2, .int .i64 0, .slice none 0 0, .int .i64 0, .int .i64 0, .bool false, .int .i64 xm, .int .i64 0, .int .i64 0, .int .i64 0, .int .i64 0, .bool false] (0, 0) _ (by rfl) ?_ Try.underlying55 rfl (by kernel_rfl)) rfl ⟨rfl, ?_⟩
  · exact (((Below.refl _ _).alloc (Nat.le_refl _) _).block (w.heap.size + 1) (by simp)).trans (heap_alloc2_new w _ _)
  · exact (((Below.refl _ _).alloc (Nat.le_refl _) _).alloc (by simp) _).alloc (by simp; omega) _

set_option maxRecDepth 100000 in
set_option maxHeartbeats 3200000 in
theorem need_3 (xk xo xr xw xm xu xg xd xq : Int) (xb xy : Bool) (xa : Option Addr) (xn xc : Nat) (w : World) :
    Calls Try.prog 71 #[.agg #[.int .i64 3, .int .i64 xo, .slice xa xn xc, .int .i64 xr, .int .i64 xw, .bool xb, .int .i64 xm, .int .i64 xu, .int .i64 xg, .int .i64 xd, .int .i64 xq, .bool xy]] w fun e w' => e = .returned (.agg #[.int .i64 3, .int .i64 0, .slice none 0 0, .int .i64 0, .int .i64 0, .bool false, .int .i64 xm, .int .i64 0, .int .i64 0, .int .i64 0, .int .i64 0, .bool false]) ∧ Below w.heap.size w w' := by
  go_enter Try.func71, Try.ntmps71
  go_wp2_with fail
  refine bodyPost_ret (results_cell_row (p := 2) (ty := 55) rfl _ _ (w.heap.size + 1) 55 #[.int .i64 3, .int .i64 0, .slice none 0 0, .int .i64 0, .int .i64 0, .bool false, .int .i64 xm, .int .i64 0, .int .i64 0, .int .i64 0, .int .i64 0, .bool false] (0, 0) _ (by rfl) ?_ Try.underlying55 rfl (by kernel_rfl)) rfl ⟨rfl, ?_⟩
  · exact (((Below.refl _ _).alloc (Nat.le_refl _) _).block (w.heap.size + 1) (by simp)).trans (heap_alloc2_new w _ _)
  · exact (((Below.refl _ _).alloc (Nat.le_refl _) _).alloc (by simp) _).alloc (by simp; omega) _

set_option maxRecDepth 100000 in
set_option maxHeartbeats 3200000 in
theorem need_4 (xk xo xr xw xm xu xg xd xq : Int) (xb xy : Bool) (xa : Option Addr) (xn xc : Nat) (w : World) :
    Calls Try.prog 71 #[.agg #[.int .i64 4, .int .i64 xo, .slice xa xn xc, .int .i64 xr, .int .i64 xw, .bool xb, .int .i64 xm, .int .i64 xu, .int .i64 xg, .int .i64 xd, .int .i64 xq, .bool xy]] w fun e w' => e = .returned (.agg #[.int .i64 4, .int .i64 0, .slice none 0 0, .int .i64 0, .int .i64 0, .bool false, .int .i64 xm, .int .i64 0, .int .i64 0, .int .i64 0, .int .i64 0, .bool false]) ∧ Below w.heap.size w w' := by
  go_enter Try.func71, Try.ntmps71
  go_wp2_with fail
  refine bodyPost_ret (results_cell_row (p := 2) (ty := 55) rfl _ _ (w.heap.size + 1) 55 #[.int .i64 4, .int .i64 0, .slice none 0 0, .int .i64 0, .int .i64 0, .bool false, .int .i64 xm, .int .i64 0, .int .i64 0, .int .i64 0, .int .i64 0, .bool false] (0, 0) _ (by rfl) ?_ Try.underlying55 rfl (by kernel_rfl)) rfl ⟨rfl, ?_⟩
  · exact (((Below.refl _ _).alloc (Nat.le_refl _) _).block (w.heap.size + 1) (by simp)).trans (heap_alloc2_new w _ _)
  · exact (((Below.refl _ _).alloc (Nat.le_refl _) _).alloc (by simp) _).alloc (by simp; omega) _

set_option maxRecDepth 100000 in
set_option maxHeartbeats 3200000 in
theorem need_5 (xk xo xr xw xm xu xg xd xq : Int) (xb xy : Bool) (xa : Option Addr) (xn xc : Nat) (w : World) :
    Calls Try.prog 71 #[.agg #[.int .i64 5, .int .i64 xo, .slice xa xn xc, .int .i64 xr, .int .i64 xw, .bool xb, .int .i64 xm, .int .i64 xu, .int .i64 xg, .int .i64 xd, .int .i64 xq, .bool xy]] w fun e w' => e = .returned (.agg #[.int .i64 5, .int .i64 0, .slice none 0 0, .int .i64 0, .int .i64 0, .bool false, .int .i64 xm, .int .i64 0, .int .i64 0, .int .i64 0, .int .i64 0, .bool false]) ∧ Below w.heap.size w w' := by
  go_enter Try.func71, Try.ntmps71
  go_wp2_with fail
  refine bodyPost_ret (results_cell_row (p := 2) (ty := 55) rfl _ _ (w.heap.size + 1) 55 #[.int .i64 5, .int .i64 0, .slice none 0 0, .int .i64 0, .int .i64 0, .bool false, .int .i64 xm, .int .i64 0, .int .i64 0, .int .i64 0, .int .i64 0, .bool false] (0, 0) _ (by rfl) ?_ Try.underlying55 rfl (by kernel_rfl)) rfl ⟨rfl, ?_⟩
  · exact (((Below.refl _ _).alloc (Nat.le_refl _) _).block (w.heap.size + 1) (by simp)).trans (heap_alloc2_new w _ _)
  · exact (((Below.refl _ _).alloc (Nat.le_refl _) _).alloc (by simp) _).alloc (by simp; omega) _

set_option maxRecDepth 100000 in
set_option maxHeartbeats 3200000 in
theorem need_6 (xk xo xr xw xm xu xg xd xq : Int) (xb xy : Bool) (xa : Option Addr) (xn xc : Nat) (w : World) :
    Calls Try.prog 71 #[.agg #[.int .i64 6, .int .i64 xo, .slice xa xn xc, .int .i64 xr, .int .i64 xw, .bool xb, .int .i64 xm, .int .i64 xu, .int .i64 xg, .int .i64 xd, .int .i64 xq, .bool xy]] w fun e w' => e = .returned (.agg #[.int .i64 6, .int .i64 0, .slice none 0 0, .int .i64 0, .int .i64 0, .bool false, .int .i64 xm, .int .i64 xu, .int .i64 xg, .int .i64 0, .int .i64 0, .bool false]) ∧ Below w.heap.size w w' := by
  go_enter Try.func71, Try.ntmps71
  go_wp2_with fail
  have c0 : ¬ w.heap.size + 1 + 1 = w.heap.size := by omega
  have c1 : ¬ w.heap.size + 1 + 1 = w.heap.size + 1 := by omega
  have c2 : ¬ w.heap.size + 1 = w.heap.size := by omega
  have c3 : ¬ w.heap.size = w.heap.size + 1 + 1 := by omega
  have c4 : ¬ w.heap.size = w.heap.size + 1 := by omega
  go_region_held3 (fun w' => w'.cell? ⟨w.heap.size, 6, none⟩ = some (.int .i64 xm) ∧ w'.cell? ⟨w.heap.size, 7, none⟩ = some (.int .i64 xu) ∧ w'.cell? ⟨w.heap.size, 8, none⟩ = some (.int .i64 xg)) (go_keep) (fail)
  all_goals
    go_wp2_with fail
    refine bodyPost_ret (results_cell_row (p := 2) (ty := 55) rfl _ _ (w.heap.size + 1) 55 #[.int .i64 6, .int .i64 0, .slice none 0 0, .int .i64 0, .int .i64 0, .bool false, .int .i64 xm, .int .i64 xu, .int .i64 xg, .int .i64 0, .int .i64 0, .bool false] (0, 0) _ (by rfl) ?_ Try.underlying55 rfl (by kernel_rfl)) rfl ⟨rfl, ?_⟩
    · exact (((Below.refl _ _).alloc (Nat.le_refl _) _).block (w.heap.size + 1) (by simp)).trans (heap_alloc2_new w _ _)
    · exact ((((Below.refl _ _).alloc (Nat.le_refl _) _).alloc (by simp) _).alloc (by simp; omega) _).drew

set_option maxRecDepth 100000 in
set_option maxHeartbeats 3200000 in
theorem need_7 (xk xo xr xw xm xu xg xd xq : Int) (xb xy : Bool) (xa : Option Addr) (xn xc : Nat) (w : World) :
    Calls Try.prog 71 #[.agg #[.int .i64 7, .int .i64 xo, .slice xa xn xc, .int .i64 xr, .int .i64 xw, .bool xb, .int .i64 xm, .int .i64 xu, .int .i64 xg, .int .i64 xd, .int .i64 xq, .bool xy]] w fun e w' => e = .returned (.agg #[.int .i64 7, .int .i64 0, .slice none 0 0, .int .i64 0, .int .i64 0, .bool false, .int .i64 0, .int .i64 0, .int .i64 0, .int .i64 xd, .int .i64 0, .bool false]) ∧ Below w.heap.size w w' := by
  go_enter Try.func71, Try.ntmps71
  go_wp2_with fail
  refine bodyPost_ret (results_cell_row (p := 2) (ty := 55) rfl _ _ (w.heap.size + 1) 55 #[.int .i64 7, .int .i64 0, .slice none 0 0, .int .i64 0, .int .i64 0, .bool false, .int .i64 0, .int .i64 0, .int .i64 0, .int .i64 xd, .int .i64 0, .bool false] (0, 0) _ (by rfl) ?_ Try.underlying55 rfl (by kernel_rfl)) rfl ⟨rfl, ?_⟩
  · exact (((Below.refl _ _).alloc (Nat.le_refl _) _).block (w.heap.size + 1) (by simp)).trans (heap_alloc2_new w _ _)
  · exact (((Below.refl _ _).alloc (Nat.le_refl _) _).alloc (by simp) _).alloc (by simp; omega) _

set_option maxRecDepth 100000 in
set_option maxHeartbeats 3200000 in
theorem need_8 (xk xo xr xw xm xu xg xd xq : Int) (xb xy : Bool) (xa : Option Addr) (xn xc : Nat) (w : World) :
    Calls Try.prog 71 #[.agg #[.int .i64 8, .int .i64 xo, .slice xa xn xc, .int .i64 xr, .int .i64 xw, .bool xb, .int .i64 xm, .int .i64 xu, .int .i64 xg, .int .i64 xd, .int .i64 xq, .bool xy]] w fun e w' => e = .returned (.agg #[.int .i64 8, .int .i64 0, .slice none 0 0, .int .i64 0, .int .i64 0, .bool false, .int .i64 0, .int .i64 0, .int .i64 0, .int .i64 0, .int .i64 xq, .bool xy]) ∧ Below w.heap.size w w' := by
  go_enter Try.func71, Try.ntmps71
  go_wp2_with fail
  have c0 : ¬ w.heap.size + 1 + 1 = w.heap.size := by omega
  have c1 : ¬ w.heap.size + 1 + 1 = w.heap.size + 1 := by omega
  have c2 : ¬ w.heap.size + 1 = w.heap.size := by omega
  have c3 : ¬ w.heap.size = w.heap.size + 1 + 1 := by omega
  have c4 : ¬ w.heap.size = w.heap.size + 1 := by omega
  go_region_held3 (fun w' => w'.cell? ⟨w.heap.size, 10, none⟩ = some (.int .i64 xq) ∧ w'.cell? ⟨w.heap.size, 11, none⟩ = some (.bool xy)) (go_keep) (fail)
  all_goals
    go_wp2_with fail
    refine bodyPost_ret (results_cell_row (p := 2) (ty := 55) rfl _ _ (w.heap.size + 1) 55 #[.int .i64 8, .int .i64 0, .slice none 0 0, .int .i64 0, .int .i64 0, .bool false, .int .i64 0, .int .i64 0, .int .i64 0, .int .i64 0, .int .i64 xq, .bool xy] (0, 0) _ (by rfl) ?_ Try.underlying55 rfl (by kernel_rfl)) rfl ⟨rfl, ?_⟩
    · exact (((Below.refl _ _).alloc (Nat.le_refl _) _).block (w.heap.size + 1) (by simp)).trans (heap_alloc2_new w _ _)
    · exact ((((Below.refl _ _).alloc (Nat.le_refl _) _).alloc (by simp) _).alloc (by simp; omega) _).drew

set_option maxRecDepth 100000 in
set_option maxHeartbeats 3200000 in
theorem need_0 (xk xo xr xw xm xu xg xd xq : Int) (xb xy : Bool) (xa : Option Addr) (xn xc : Nat) (w : World) (h1 : (xk == 1) = false) (h2 : (xk == 2) = false) (h3 : (xk == 3) = false) (h4 : (xk == 4) = false) (h5 : (xk == 5) = false) (h6 : (xk == 6) = false) (h7 : (xk == 7) = false) (h8 : (xk == 8) = false) :
    Calls Try.prog 71 #[.agg #[.int .i64 xk, .int .i64 xo, .slice xa xn xc, .int .i64 xr, .int .i64 xw, .bool xb, .int .i64 xm, .int .i64 xu, .int .i64 xg, .int .i64 xd, .int .i64 xq, .bool xy]] w fun e w' => e = .returned (.agg #[.int .i64 xk, .int .i64 0, .slice none 0 0, .int .i64 0, .int .i64 0, .bool false, .int .i64 0, .int .i64 0, .int .i64 0, .int .i64 0, .int .i64 0, .bool false]) ∧ Below w.heap.size w w' := by
  go_enter Try.func71, Try.ntmps71
  go_wp2_with fail
  refine bodyPost_ret (results_cell_row (p := 2) (ty := 55) rfl _ _ (w.heap.size + 1) 55 #[.int .i64 xk, .int .i64 0, .slice none 0 0, .int .i64 0, .int .i64 0, .bool false, .int .i64 0, .int .i64 0, .int .i64 0, .int .i64 0, .int .i64 0, .bool false] (0, 0) _ (by rfl) ?_ Try.underlying55 rfl (by kernel_rfl)) rfl ⟨rfl, ?_⟩
  · exact (((Below.refl _ _).alloc (Nat.le_refl _) _).block (w.heap.size + 1) (by simp)).trans (heap_alloc2_new w _ _)
  · exact (((Below.refl _ _).alloc (Nat.le_refl _) _).alloc (by simp) _).alloc (by simp; omega) _

end Go.Proofs.Ytnkgbigjpihfeaa.Kd
