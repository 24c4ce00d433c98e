/- command.Formed and command.Encode at every command. -/
import Derived.Test.YtnkgbigjpihfeaaDb
import Derived.Test.YtnkgbigjpihfeaaDc
import Derived.Test.YtnkgbigjpihfeaaJa
import Derived.Test.YtnkgbigjpihfeaaCb
set_option linter.unusedVariables false
set_option linter.unusedSimpArgs false
namespace Go.Proofs.Ytnkgbigjpihfeaa.Kd
open Go.RowKit Go.Proofs.Ytnkgbigjpihfeaa.Lib
open Go.Proofs.Ytnkgbigjpihfeaa.Ma (alloc_keep alloc_at eqC equal15 cbox_cells sameB_self sameB)

/-- What needed gives. -/
def needV (xk xo xr xw xm xu xg xd xq : Int) (xb xy : Bool) (xa : Option Addr) (xn xc : Nat) : Value := if xk = 1 then .agg #[.int .i64 xk, .int .i64 xo, .slice xa xn xc, .int .i64 xr, .int .i64 xw, .bool xb, .int .i64 0, .int .i64 0, .int .i64 0, .int .i64 0, .int .i64 0, .bool false] else if xk = 2 ∨ xk = 3 ∨ xk = 4 ∨ xk = 5 then .agg #[.int .i64 xk, .int .i64 0, .slice none 0 0, .int .i64 0, .int .i64 0, .bool false, .int .i64 xm, .int .i64 0, .int .i64 0, .int .i64 0, .int .i64 0, .bool false] else if xk = 6 then .agg #[.int .i64 xk, .int .i64 0, .slice none 0 0, .int .i64 0, .int .i64 0, .bool false, .int .i64 xm, .int .i64 xu, .int .i64 xg, .int .i64 0, .int .i64 0, .bool false] else if xk = 7 then .agg #[.int .i64 xk, .int .i64 0, .slice none 0 0, .int .i64 0, .int .i64 0, .bool false, .int .i64 0, .int .i64 0, .int .i64 0, .int .i64 xd, .int .i64 0, .bool false] else if xk = 8 then .agg #[.int .i64 xk, .int .i64 0, .slice none 0 0, .int .i64 0, .int .i64 0, .bool false, .int .i64 0, .int .i64 0, .int .i64 0, .int .i64 0, .int .i64 xq, .bool xy] else .agg #[.int .i64 xk, .int .i64 0, .slice none 0 0, .int .i64 0, .int .i64 0, .bool false, .int .i64 0, .int .i64 0, .int .i64 0, .int .i64 0, .int .i64 0, .bool false]

theorem need_any (xk xo xr xw xm xu xg xd xq : Int) (xb xy : Bool) (xa : Option Addr) (xn xc : Nat) (w : World) : Calls Try.prog 71 #[.agg #[.int .i64 xk, .int .i64 xo, .slice xa xn xc, .int .i64 xr, .int .i64 xw, .bool xb, .int .i64 xm, .int .i64 xu, .int .i64 xg, .int .i64 xd, .int .i64 xq, .bool xy]] w fun e w' => e = .returned (needV xk xo xr xw xm xu xg xd xq xb xy xa xn xc) ∧ Below w.heap.size w w' := by
  cases h1 : (xk == 1)
  rotate_left
  · obtain rfl : xk = 1 := by simpa using h1
    exact need_1 1 xo xr xw xm xu xg xd xq xb xy xa xn xc w
  cases h2 : (xk == 2)
  rotate_left
  · obtain rfl : xk = 2 := by simpa using h2
    exact need_2 2 xo xr xw xm xu xg xd xq xb xy xa xn xc w
  cases h3 : (xk == 3)
  rotate_left
  · obtain rfl : xk = 3 := by simpa using h3
    exact need_3 3 xo xr xw xm xu xg xd xq xb xy xa xn xc w
  cases h4 : (xk == 4)
  rotate_left
  · obtain rfl : xk = 4 := by simpa using h4
    exact need_4 4 xo xr xw xm xu xg xd xq xb xy xa xn xc w
  cases h5 : (xk == 5)
  rotate_left
  · obtain rfl : xk = 5 := by simpa using h5
    exact need_5 5 xo xr xw xm xu xg xd xq xb xy xa xn xc w
  cases h6 : (xk == 6)
  rotate_left
  · obtain rfl : xk = 6 := by simpa using h6
    exact need_6 6 xo xr xw xm xu xg xd xq xb xy xa xn xc w
  cases h7 : (xk == 7)
  rotate_left
  · obtain rfl : xk = 7 := by simpa using h7
    exact need_7 7 xo xr xw xm xu xg xd xq xb xy xa xn xc w
  cases h8 : (xk == 8)
  rotate_left
  · obtain rfl : xk = 8 := by simpa using h8
    exact need_8 8 xo xr xw xm xu xg xd xq xb xy xa xn xc w
  have he : needV xk xo xr xw xm xu xg xd xq xb xy xa xn xc = .agg #[.int .i64 xk, .int .i64 0, .slice none 0 0, .int .i64 0, .int .i64 0, .bool false, .int .i64 0, .int .i64 0, .int .i64 0, .int .i64 0, .int .i64 0, .bool false] := by
    simp only [beq_eq_false_iff_ne, ne_eq] at *
    simp [needV, *]
  rw [he]
  exact need_0 xk xo xr xw xm xu xg xd xq xb xy xa xn xc w h1 h2 h3 h4 h5 h6 h7 h8

theorem sameB_nil (n : Nat) (F : Nat → Int) : sameB n F 0 (fun _ => 0) = (n == 0) := by
  cases n with
  | zero => simp [sameB]
  | succ n => simp [sameB]

set_option maxRecDepth 100000 in
theorem eqneed_any (xk xo xr xw xm xu xg xd xq : Int) (xb xy : Bool) (xa : Option Addr) (xn xc : Nat) (xF : Nat → Int) (w : World) (hx : IntsAt w .i64 xa xn xF) : Calls Try.prog 42 #[.agg #[.int .i64 xk, .int .i64 xo, .slice xa xn xc, .int .i64 xr, .int .i64 xw, .bool xb, .int .i64 xm, .int .i64 xu, .int .i64 xg, .int .i64 xd, .int .i64 xq, .bool xy], needV xk xo xr xw xm xu xg xd xq xb xy xa xn xc] w fun e w' => e = .returned (.bool (needB xk xo xr xw xm xu xg xd xq xb xy xn)) ∧ Below w.heap.size w w' := by
  have hnil : IntsAt w .i64 none 0 (fun _ => 0) := ⟨by omega, fun h => absurd h (by omega)⟩
  cases h1 : (xk == 1)
  rotate_left
  · obtain rfl : xk = 1 := by simpa using h1
    have h := equal15 1 xo xr xw xm xu xg xd xq xb xy xa xn xc xF 1 xo xr xw 0 0 0 0 0 xb false xa xn xc xF w hx hx
    have he : eqC 1 xo xr xw xm xu xg xd xq xb xy xa xn xc xF 1 xo xr xw 0 0 0 0 0 xb false xa xn xc xF = needB 1 xo xr xw xm xu xg xd xq xb xy xn := by
      simp only [eqC, needB, sameB_nil, sameB_self]
      simp [Bool.and_assoc, Bool.and_comm, Bool.and_left_comm]
    rw [he] at h
    exact h
  cases h2 : (xk == 2)
  rotate_left
  · obtain rfl : xk = 2 := by simpa using h2
    have h := equal15 2 xo xr xw xm xu xg xd xq xb xy xa xn xc xF 2 0 0 0 xm 0 0 0 0 false false none 0 0 (fun _ => 0) w hx hnil
    have he : eqC 2 xo xr xw xm xu xg xd xq xb xy xa xn xc xF 2 0 0 0 xm 0 0 0 0 false false none 0 0 (fun _ => 0) = needB 2 xo xr xw xm xu xg xd xq xb xy xn := by
      simp only [eqC, needB, sameB_nil, sameB_self]
      simp [Bool.and_assoc, Bool.and_comm, Bool.and_left_comm]
    rw [he] at h
    exact h
  cases h3 : (xk == 3)
  rotate_left
  · obtain rfl : xk = 3 := by simpa using h3
    have h := equal15 3 xo xr xw xm xu xg xd xq xb xy xa xn xc xF 3 0 0 0 xm 0 0 0 0 false false none 0 0 (fun _ => 0) w hx hnil
    have he : eqC 3 xo xr xw xm xu xg xd xq xb xy xa xn xc xF 3 0 0 0 xm 0 0 0 0 false false none 0 0 (fun _ => 0) = needB 3 xo xr xw xm xu xg xd xq xb xy xn := by
      simp only [eqC, needB, sameB_nil, sameB_self]
      simp [Bool.and_assoc, Bool.and_comm, Bool.and_left_comm]
    rw [he] at h
    exact h
  cases h4 : (xk == 4)
  rotate_left
  · obtain rfl : xk = 4 := by simpa using h4
    have h := equal15 4 xo xr xw xm xu xg xd xq xb xy xa xn xc xF 4 0 0 0 xm 0 0 0 0 false false none 0 0 (fun _ => 0) w hx hnil
    have he : eqC 4 xo xr xw xm xu xg xd xq xb xy xa xn xc xF 4 0 0 0 xm 0 0 0 0 false false none 0 0 (fun _ => 0) = needB 4 xo xr xw xm xu xg xd xq xb xy xn := by
      simp only [eqC, needB, sameB_nil, sameB_self]
      simp [Bool.and_assoc, Bool.and_comm, Bool.and_left_comm]
    rw [he] at h
    exact h
  cases h5 : (xk == 5)
  rotate_left
  · obtain rfl : xk = 5 := by simpa using h5
    have h := equal15 5 xo xr xw xm xu xg xd xq xb xy xa xn xc xF 5 0 0 0 xm 0 0 0 0 false false none 0 0 (fun _ => 0) w hx hnil
    have he : eqC 5 xo xr xw xm xu xg xd xq xb xy xa xn xc xF 5 0 0 0 xm 0 0 0 0 false false none 0 0 (fun _ => 0) = needB 5 xo xr xw xm xu xg xd xq xb xy xn := by
      simp only [eqC, needB, sameB_nil, sameB_self]
      simp [Bool.and_assoc, Bool.and_comm, Bool.and_left_comm]
    rw [he] at h
    exact h
  cases h6 : (xk == 6)
  rotate_left
  · obtain rfl : xk = 6 := by simpa using h6
    have h := equal15 6 xo xr xw xm xu xg xd xq xb xy xa xn xc xF 6 0 0 0 xm xu xg 0 0 false false none 0 0 (fun _ => 0) w hx hnil
    have he : eqC 6 xo xr xw xm xu xg xd xq xb xy xa xn xc xF 6 0 0 0 xm xu xg 0 0 false false none 0 0 (fun _ => 0) = needB 6 xo xr xw xm xu xg xd xq xb xy xn := by
      simp only [eqC, needB, sameB_nil, sameB_self]
      simp [Bool.and_assoc, Bool.and_comm, Bool.and_left_comm]
    rw [he] at h
    exact h
  cases h7 : (xk == 7)
  rotate_left
  · obtain rfl : xk = 7 := by simpa using h7
    have h := equal15 7 xo xr xw xm xu xg xd xq xb xy xa xn xc xF 7 0 0 0 0 0 0 xd 0 false false none 0 0 (fun _ => 0) w hx hnil
    have he : eqC 7 xo xr xw xm xu xg xd xq xb xy xa xn xc xF 7 0 0 0 0 0 0 xd 0 false false none 0 0 (fun _ => 0) = needB 7 xo xr xw xm xu xg xd xq xb xy xn := by
      simp only [eqC, needB, sameB_nil, sameB_self]
      simp [Bool.and_assoc, Bool.and_comm, Bool.and_left_comm]
    rw [he] at h
    exact h
  cases h8 : (xk == 8)
  rotate_left
  · obtain rfl : xk = 8 := by simpa using h8
    have h := equal15 8 xo xr xw xm xu xg xd xq xb xy xa xn xc xF 8 0 0 0 0 0 0 0 xq false xy none 0 0 (fun _ => 0) w hx hnil
    have he : eqC 8 xo xr xw xm xu xg xd xq xb xy xa xn xc xF 8 0 0 0 0 0 0 0 xq false xy none 0 0 (fun _ => 0) = needB 8 xo xr xw xm xu xg xd xq xb xy xn := by
      simp only [eqC, needB, sameB_nil, sameB_self]
      simp [Bool.and_assoc, Bool.and_comm, Bool.and_left_comm]
    rw [he] at h
    exact h
  have h := equal15 xk xo xr xw xm xu xg xd xq xb xy xa xn xc xF xk 0 0 0 0 0 0 0 0 false false none 0 0 (fun _ => 0) w hx hnil
  simp only [beq_eq_false_iff_ne, ne_eq] at h1 h2 h3 h4 h5 h6 h7 h8
  have he : eqC xk xo xr xw xm xu xg xd xq xb xy xa xn xc xF xk 0 0 0 0 0 0 0 0 false false none 0 0 (fun _ => 0) = needB xk xo xr xw xm xu xg xd xq xb xy xn := by
    simp only [eqC, needB, sameB_nil, sameB_self]
    simp [h1, h2, h3, h4, h5, h6, h7, h8, Bool.and_assoc, Bool.and_comm, Bool.and_left_comm]
  have hv : needV xk xo xr xw xm xu xg xd xq xb xy xa xn xc = .agg #[.int .i64 xk, .int .i64 0, .slice none 0 0, .int .i64 0, .int .i64 0, .bool false, .int .i64 0, .int .i64 0, .int .i64 0, .int .i64 0, .int .i64 0, .bool false] := by simp [needV, h1, h2, h3, h4, h5, h6, h7, h8]
  rw [he] at h
  rw [hv]
  exact h

end Go.Proofs.Ytnkgbigjpihfeaa.Kd
