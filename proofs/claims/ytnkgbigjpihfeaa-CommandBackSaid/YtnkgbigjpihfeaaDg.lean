/- recouplaw15.Bytes at every formed command. -/
import Derived.Test.YtnkgbigjpihfeaaDf
set_option linter.unusedVariables false
set_option linter.unusedSimpArgs false
namespace Go.Proofs.Ytnkgbigjpihfeaa.Kd
open Go.RowKit Go.Proofs.Ytnkgbigjpihfeaa.Lib
open Go.Proofs.Ytnkgbigjpihfeaa.Ma (alloc_keep alloc_at cbox_cells)

/-- The bytes so far: own memory, the command's box as it was. -/
structure BS (w : World) (X : Array Value) (v : Value) (l : List Int) (w1 : World) : Prop where
  own : w1.ownsRow (w.heap.size + 1) 5 1 v l.length (bts l)
  bel : Below (w.heap.size + 1) (w.alloc (.cells X 53)) w1

theorem BS.alloc {w w1 : World} {X : Array Value} {v : Value} {l : List Int} (h : BS w X v l w1) (ob : Obj) : BS w X v l (w1.alloc ob) := ⟨h.own.alloc ob, h.bel.alloc (by have := h.bel.size; simp at this; omega) _⟩
theorem BS.call {w w1 w2 : World} {X : Array Value} {v : Value} {l : List Int} (h : BS w X v l w1) (k : Below w1.heap.size w1 w2) : BS w X v l w2 :=
  ⟨h.own.kept (row := none) ⟨k.os, k.tape, k.output, k.size, fun i hi _ => k.block i hi⟩ (by cases hv : v.ownBlock <;> simp), h.bel.trans (k.mono (by have := h.bel.size; simp at this; omega))⟩
theorem BS.size {w w1 : World} {X : Array Value} {v : Value} {l : List Int} (h : BS w X v l w1) : w.heap.size + 1 ≤ w1.heap.size := by have := h.bel.size; simpa using this
theorem BS.box {w w1 : World} {X : Array Value} {v : Value} {l : List Int} (h : BS w X v l w1) : w1.heap[w.heap.size]? = some (.cells X 53 (0, 0)) := (h.bel.block w.heap.size (by omega)).trans (heap_alloc_new _ _)
theorem BS.all {w w1 : World} {X : Array Value} {v : Value} {l : List Int} (h : BS w X v l w1) : Below w.heap.size w w1 := ((Below.refl w.heap.size w).alloc (Nat.le_refl _) _).trans (h.bel.mono (by omega))
theorem BS.grown {w w1 w2 : World} {X : Array Value} {v v2 : Value} {l l2 : List Int} (h : BS w X v l w1) (k : w1.grownBy w2 v.ownBlock) (q : w2.ownsRow (w.heap.size + 1) 5 1 v2 l2.length (bts l2)) : BS w X v2 l2 w2 :=
  ⟨q, h.bel.trans ⟨k.os, k.tape, k.output, k.size, fun i hi => k.block i (by have := h.size; omega) (fun e => by have := (h.own.lt i e.symm).1; omega)⟩⟩

theorem BS.first {w : World} {X : Array Value} (x : Int) : BS w X (.slice (some ⟨w.heap.size + 1, 0, none⟩) 1 1) [x] ((w.alloc (.cells X 53)).alloc (.cells #[.int .u8 x] 5)) :=
  ⟨⟨rfl, .inr ⟨w.heap.size + 1, 1, #[.int .u8 x], rfl, Nat.le_refl _, alloc_at (by simp), Nat.le_refl _, by decide, rfl, rfl⟩⟩, (Below.refl _ _).alloc (by simp) _⟩

theorem app_bs {w w1 : World} {X : Array Value} {v : Value} {l : List Int} {ops : Array Oper} {rest : List Oper} {o : Oper} {a : Act} {Q : Exit → Act → World → Prop} (hgd : o.guard = none) (s x : Operand)
    (ho : o.op = .call { callee := .builtin .append, args := #[s, x], argTypes := #[22, 22] }) (h : BS w X v l w1) (hs : a.eval s = v)
    (ad : Option Addr) (m c : Nat) (F : Nat → Int) (hx : a.eval x = .slice ad m c) (hi : IntsAt w1 .u8 ad m F) (hn : ad = none → m = 0 ∧ c = 0) (hb : l.length + m ≤ 1000000)
    (hk : ∀ v' w', BS w X v' (l ++ lof m F) w' → wpList Try.prog ops Q rest (a.put o.dst v') w') :
    wpList Try.prog ops Q (o :: rest) a w1 :=
  append_bytes hgd s x ho (w.heap.size + 1) v l hs h.own ad m c F hx hi hn hb h.size (fun v' w' h1 h2 _ => hk v' w' (h.grown h2 h1))

theorem lit_ints {w : World} (ys : List Int) (hy : ys.length ≤ 1000) : IntsAt (w.alloc (.cells (ys.map (Value.int .u8)).toArray 5)) .u8 (some ⟨w.heap.size, 0, none⟩) ys.length (gtD ys) := by
  refine ⟨by omega, fun _ => ⟨w.heap.size, 0, rfl, by simp, fun j hj => ?_⟩⟩
  simp only [World.cell?, heap_alloc_new]
  simp [gtD, List.getD, hj]

/-- append(v, x, ..): of what stands there. -/
theorem app_lit {w w1 : World} {X : Array Value} {v : Value} {l : List Int} {ops : Array Oper} {rest : List Oper} {o : Oper} {a : Act} {Q : Exit → Act → World → Prop} (hgd : o.guard = none) (s x : Operand)
    (ho : o.op = .call { callee := .builtin .append, args := #[s, x], argTypes := #[22, 22] }) (h : BS w X v l w1) (hs : a.eval s = v)
    (ys : List Int) (c : Nat) (cs : Array Value) (hcs : cs = (ys.map (Value.int .u8)).toArray) (hy : ys.length ≤ 1000) (hx : a.eval x = .slice (some ⟨w1.heap.size, 0, none⟩) ys.length c) (hb : l.length ≤ 10000)
    (hk : ∀ v' w', BS w X v' (l ++ ys) w' → wpList Try.prog ops Q rest (a.put o.dst v') w') :
    wpList Try.prog ops Q (o :: rest) a (w1.alloc (.cells cs 5)) := by
  subst hcs
  refine app_bs hgd s x ho (h.alloc _) hs _ _ c _ hx (lit_ints ys hy) (fun e => by cases e) (by omega) (fun v' w' hq => hk v' w' ?_)
  rwa [lof_gtD] at hq

theorem flag72 (w : World) (b : Bool) : Calls Try.prog 72 #[.bool b] w fun e w' => e = .returned (.int .u8 (fl b)) ∧ w = w' := by
  cases b
  all_goals
    go_enter Try.func72, Try.ntmps72
    go_wp2_with fail
    go_ret
    exact ⟨rfl, rfl⟩

/-- What Bytes gives. -/
def by41 (l : List Int) (w : World) (e : Ending) (w' : World) : Prop := ∃ v, e = .returned v ∧ w'.ownsRow (w.heap.size + 1) 5 1 v l.length (bts l) ∧ Below w.heap.size w w'

theorem leB1 {x : Int} (h : in1 x) : leB x 1 = [x] := by
  unfold in1 at h
  simp only [leB]
  rw [show x % 256 = x from by omega]

theorem app_ref {w w1 : World} {X : Array Value} {v : Value} {l : List Int} {ops : Array Oper} {rest : List Oper} {o : Oper} {a : Act} {Q : Exit → Act → World → Prop} (hgd : o.guard = none) (s x : Operand)
    (ho : o.op = .call { callee := .builtin .append, args := #[s, x], argTypes := #[22, 22] }) (h : BS w X v l w1) (hs : a.eval s = v)
    (v2 : Value) (l2 : List Int) (base : Nat) (hx : a.eval x = v2) (own2 : w1.ownsRow base 5 1 v2 l2.length (bts l2)) (hb : l.length + l2.length ≤ 1000000)
    (hk : ∀ v' w', BS w X v' (l ++ l2) w' → wpList Try.prog ops Q rest (a.put o.dst v') w') :
    wpList Try.prog ops Q (o :: rest) a w1 := by
  obtain ⟨a2, c2, rfl, hi, hn⟩ := own_at own2 (by omega)
  refine app_bs hgd s x ho h hs a2 l2.length c2 _ hx hi hn hb (fun v' w' hq => hk v' w' ?_)
  rwa [lof_gtD] at hq

set_option maxRecDepth 100000 in
set_option maxHeartbeats 3200000 in
theorem bytes_2 (xo xr xw xm xu xg xd xq : Int) (xb xy : Bool) (xa : Option Addr) (xn xc : Nat) (xF : Nat → Int) (w : World) (h_xm : in2 xm) :
    Calls Try.prog 41 #[.agg #[.int .i64 2, .int .i64 xo, .slice xa xn xc, .int .i64 xr, .int .i64 xw, .bool xb, .int .i64 xm, .int .i64 xu, .int .i64 xg, .int .i64 xd, .int .i64 xq, .bool xy]] w fun e w' => by41 ([(2 : Int)] ++ leB xm 2) w e w' := by
  have b_xm0 : 0 ≤ xm := h_xm.1
  have b_xm1 : xm ≤ 65535 := h_xm.2
  clear h_xm
  go_enter Try.func41, Try.ntmps41
  go_upto_region 2 with fail
  have hB := Lib.hid (BS.first (w := w) (X := #[.int .i64 2, .int .i64 xo, .slice xa xn xc, .int .i64 xr, .int .i64 xw, .bool xb, .int .i64 xm, .int .i64 xu, .int .i64 xg, .int .i64 xd, .int .i64 xq, .bool xy]) 2)
  generalize hW : World.alloc (World.alloc w _) _ = W at *
  replace hW := Lib.hid hW
  generalize hV : Value.slice (some ⟨w.heap.size + 1, 0, none⟩) 1 1 = V at *
  replace hV := Lib.hid hV
  obtain ⟨k0, k1, k2, k3, k4, k5, k6, k7, k8, k9, k10, k11⟩ := cbox_cells 2 xo xr xw xm xu xg xd xq xb xy xa xn xc xF hB.out.box
  go_wp2_with fail
  refine (refBytes _ xm (by omega) 2 (by decide)).mono ?_
  rintro e w1 ⟨v1, rfl, ow, bl⟩
  replace hB := Lib.hid (hB.out.call bl)
  replace ow := Lib.hid ow
  clear k0 k1 k2 k3 k4 k5 k6 k7 k8 k9 k10 k11 bl
  obtain ⟨k0, k1, k2, k3, k4, k5, k6, k7, k8, k9, k10, k11⟩ := cbox_cells 2 xo xr xw xm xu xg xd xq xb xy xa xn xc xF hB.out.box
  go_wp2_with (first
    | (at_builtin; refine app_ref rfl _ _ rfl hB.out rfl v1 _ _ rfl ow.out (by simp [leB_len]) ?_; intro v' w' hB2; replace hB := Lib.hid hB2; clear hB2 k0 k1 k2 k3 k4 k5 k6 k7 k8 k9 k10 k11; obtain ⟨k0, k1, k2, k3, k4, k5, k6, k7, k8, k9, k10, k11⟩ := cbox_cells 2 xo xr xw xm xu xg xd xq xb xy xa xn xc xF hB.out.box))
  go_ret
  exact ⟨_, rfl, hB.out.own, hB.out.all⟩

set_option maxRecDepth 100000 in
set_option maxHeartbeats 3200000 in
theorem bytes_3 (xo xr xw xm xu xg xd xq : Int) (xb xy : Bool) (xa : Option Addr) (xn xc : Nat) (xF : Nat → Int) (w : World) (h_xm : in2 xm) :
    Calls Try.prog 41 #[.agg #[.int .i64 3, .int .i64 xo, .slice xa xn xc, .int .i64 xr, .int .i64 xw, .bool xb, .int .i64 xm, .int .i64 xu, .int .i64 xg, .int .i64 xd, .int .i64 xq, .bool xy]] w fun e w' => by41 ([(3 : Int)] ++ leB xm 2) w e w' := by
  have b_xm0 : 0 ≤ xm := h_xm.1
  have b_xm1 : xm ≤ 65535 := h_xm.2
  clear h_xm
  go_enter Try.func41, Try.ntmps41
  go_upto_region 2 with fail
  have hB := Lib.hid (BS.first (w := w) (X := #[.int .i64 3, .int .i64 xo, .slice xa xn xc, .int .i64 xr, .int .i64 xw, .bool xb, .int .i64 xm, .int .i64 xu, .int .i64 xg, .int .i64 xd, .int .i64 xq, .bool xy]) 3)
  generalize hW : World.alloc (World.alloc w _) _ = W at *
  replace hW := Lib.hid hW
  generalize hV : Value.slice (some ⟨w.heap.size + 1, 0, none⟩) 1 1 = V at *
  replace hV := Lib.hid hV
  obtain ⟨k0, k1, k2, k3, k4, k5, k6, k7, k8, k9, k10, k11⟩ := cbox_cells 3 xo xr xw xm xu xg xd xq xb xy xa xn xc xF hB.out.box
  go_wp2_with fail
  refine (refBytes _ xm (by omega) 2 (by decide)).mono ?_
  rintro e w1 ⟨v1, rfl, ow, bl⟩
  replace hB := Lib.hid (hB.out.call bl)
  replace ow := Lib.hid ow
  clear k0 k1 k2 k3 k4 k5 k6 k7 k8 k9 k10 k11 bl
  obtain ⟨k0, k1, k2, k3, k4, k5, k6, k7, k8, k9, k10, k11⟩ := cbox_cells 3 xo xr xw xm xu xg xd xq xb xy xa xn xc xF hB.out.box
  go_wp2_with (first
    | (at_builtin; refine app_ref rfl _ _ rfl hB.out rfl v1 _ _ rfl ow.out (by simp [leB_len]) ?_; intro v' w' hB2; replace hB := Lib.hid hB2; clear hB2 k0 k1 k2 k3 k4 k5 k6 k7 k8 k9 k10 k11; obtain ⟨k0, k1, k2, k3, k4, k5, k6, k7, k8, k9, k10, k11⟩ := cbox_cells 3 xo xr xw xm xu xg xd xq xb xy xa xn xc xF hB.out.box))
  go_ret
  exact ⟨_, rfl, hB.out.own, hB.out.all⟩

set_option maxRecDepth 100000 in
set_option maxHeartbeats 3200000 in
theorem bytes_4 (xo xr xw xm xu xg xd xq : Int) (xb xy : Bool) (xa : Option Addr) (xn xc : Nat) (xF : Nat → Int) (w : World) (h_xm : in2 xm) :
    Calls Try.prog 41 #[.agg #[.int .i64 4, .int .i64 xo, .slice xa xn xc, .int .i64 xr, .int .i64 xw, .bool xb, .int .i64 xm, .int .i64 xu, .int .i64 xg, .int .i64 xd, .int .i64 xq, .bool xy]] w fun e w' => by41 ([(4 : Int)] ++ leB xm 2) w e w' := by
  have b_xm0 : 0 ≤ xm := h_xm.1
  have b_xm1 : xm ≤ 65535 := h_xm.2
  clear h_xm
  go_enter Try.func41, Try.ntmps41
  go_upto_region 2 with fail
  have hB := Lib.hid (BS.first (w := w) (X := #[.int .i64 4, .int .i64 xo, .slice xa xn xc, .int .i64 xr, .int .i64 xw, .bool xb, .int .i64 xm, .int .i64 xu, .int .i64 xg, .int .i64 xd, .int .i64 xq, .bool xy]) 4)
  generalize hW : World.alloc (World.alloc w _) _ = W at *
  replace hW := Lib.hid hW
  generalize hV : Value.slice (some ⟨w.heap.size + 1, 0, none⟩) 1 1 = V at *
  replace hV := Lib.hid hV
  obtain ⟨k0, k1, k2, k3, k4, k5, k6, k7, k8, k9, k10, k11⟩ := cbox_cells 4 xo xr xw xm xu xg xd xq xb xy xa xn xc xF hB.out.box
  go_wp2_with fail
  refine (refBytes _ xm (by omega) 2 (by decide)).mono ?_
  rintro e w1 ⟨v1, rfl, ow, bl⟩
  replace hB := Lib.hid (hB.out.call bl)
  replace ow := Lib.hid ow
  clear k0 k1 k2 k3 k4 k5 k6 k7 k8 k9 k10 k11 bl
  obtain ⟨k0, k1, k2, k3, k4, k5, k6, k7, k8, k9, k10, k11⟩ := cbox_cells 4 xo xr xw xm xu xg xd xq xb xy xa xn xc xF hB.out.box
  go_wp2_with (first
    | (at_builtin; refine app_ref rfl _ _ rfl hB.out rfl v1 _ _ rfl ow.out (by simp [leB_len]) ?_; intro v' w' hB2; replace hB := Lib.hid hB2; clear hB2 k0 k1 k2 k3 k4 k5 k6 k7 k8 k9 k10 k11; obtain ⟨k0, k1, k2, k3, k4, k5, k6, k7, k8, k9, k10, k11⟩ := cbox_cells 4 xo xr xw xm xu xg xd xq xb xy xa xn xc xF hB.out.box))
  go_ret
  exact ⟨_, rfl, hB.out.own, hB.out.all⟩

set_option maxRecDepth 100000 in
set_option maxHeartbeats 3200000 in
theorem bytes_5 (xo xr xw xm xu xg xd xq : Int) (xb xy : Bool) (xa : Option Addr) (xn xc : Nat) (xF : Nat → Int) (w : World) (h_xm : in2 xm) :
    Calls Try.prog 41 #[.agg #[.int .i64 5, .int .i64 xo, .slice xa xn xc, .int .i64 xr, .int .i64 xw, .bool xb, .int .i64 xm, .int .i64 xu, .int .i64 xg, .int .i64 xd, .int .i64 xq, .bool xy]] w fun e w' => by41 ([(5 : Int)] ++ leB xm 2) w e w' := by
  have b_xm0 : 0 ≤ xm := h_xm.1
  have b_xm1 : xm ≤ 65535 := h_xm.2
  clear h_xm
  go_enter Try.func41, Try.ntmps41
  go_upto_region 2 with fail
  have hB := Lib.hid (BS.first (w := w) (X := #[.int .i64 5, .int .i64 xo, .slice xa xn xc, .int .i64 xr, .int .i64 xw, .bool xb, .int .i64 xm, .int .i64 xu, .int .i64 xg, .int .i64 xd, .int .i64 xq, .bool xy]) 5)
  generalize hW : World.alloc (World.alloc w _) _ = W at *
  replace hW := Lib.hid hW
  generalize hV : Value.slice (some ⟨w.heap.size + 1, 0, none⟩) 1 1 = V at *
  replace hV := Lib.hid hV
  obtain ⟨k0, k1, k2, k3, k4, k5, k6, k7, k8, k9, k10, k11⟩ := cbox_cells 5 xo xr xw xm xu xg xd xq xb xy xa xn xc xF hB.out.box
  go_wp2_with fail
  refine (refBytes _ xm (by omega) 2 (by decide)).mono ?_
  rintro e w1 ⟨v1, rfl, ow, bl⟩
  replace hB := Lib.hid (hB.out.call bl)
  replace ow := Lib.hid ow
  clear k0 k1 k2 k3 k4 k5 k6 k7 k8 k9 k10 k11 bl
  obtain ⟨k0, k1, k2, k3, k4, k5, k6, k7, k8, k9, k10, k11⟩ := cbox_cells 5 xo xr xw xm xu xg xd xq xb xy xa xn xc xF hB.out.box
  go_wp2_with (first
    | (at_builtin; refine app_ref rfl _ _ rfl hB.out rfl v1 _ _ rfl ow.out (by simp [leB_len]) ?_; intro v' w' hB2; replace hB := Lib.hid hB2; clear hB2 k0 k1 k2 k3 k4 k5 k6 k7 k8 k9 k10 k11; obtain ⟨k0, k1, k2, k3, k4, k5, k6, k7, k8, k9, k10, k11⟩ := cbox_cells 5 xo xr xw xm xu xg xd xq xb xy xa xn xc xF hB.out.box))
  go_ret
  exact ⟨_, rfl, hB.out.own, hB.out.all⟩

set_option maxRecDepth 100000 in
set_option maxHeartbeats 3200000 in
theorem bytes_6 (xo xr xw xm xu xg xd xq : Int) (xb xy : Bool) (xa : Option Addr) (xn xc : Nat) (xF : Nat → Int) (w : World) (h_xm : in2 xm) (h_xu : in1 xu) (h_xg : in1 xg) :
    Calls Try.prog 41 #[.agg #[.int .i64 6, .int .i64 xo, .slice xa xn xc, .int .i64 xr, .int .i64 xw, .bool xb, .int .i64 xm, .int .i64 xu, .int .i64 xg, .int .i64 xd, .int .i64 xq, .bool xy]] w fun e w' => by41 ([(6 : Int)] ++ leB xm 2 ++ [xu, xg]) w e w' := by
  have b_xm0 : 0 ≤ xm := h_xm.1
  have b_xm1 : xm ≤ 65535 := h_xm.2
  clear h_xm
  have b_xu0 : 0 ≤ xu := h_xu.1
  have b_xu1 : xu ≤ 255 := h_xu.2
  clear h_xu
  have b_xg0 : 0 ≤ xg := h_xg.1
  have b_xg1 : xg ≤ 255 := h_xg.2
  clear h_xg
  go_enter Try.func41, Try.ntmps41
  go_upto_region 2 with fail
  have hB := Lib.hid (BS.first (w := w) (X := #[.int .i64 6, .int .i64 xo, .slice xa xn xc, .int .i64 xr, .int .i64 xw, .bool xb, .int .i64 xm, .int .i64 xu, .int .i64 xg, .int .i64 xd, .int .i64 xq, .bool xy]) 6)
  generalize hW : World.alloc (World.alloc w _) _ = W at *
  replace hW := Lib.hid hW
  generalize hV : Value.slice (some ⟨w.heap.size + 1, 0, none⟩) 1 1 = V at *
  replace hV := Lib.hid hV
  obtain ⟨k0, k1, k2, k3, k4, k5, k6, k7, k8, k9, k10, k11⟩ := cbox_cells 6 xo xr xw xm xu xg xd xq xb xy xa xn xc xF hB.out.box
  go_wp2_with fail
  refine (refBytes _ xm (by omega) 2 (by decide)).mono ?_
  rintro e w1 ⟨v1, rfl, ow, bl⟩
  replace hB := Lib.hid (hB.out.call bl)
  replace ow := Lib.hid ow
  clear k0 k1 k2 k3 k4 k5 k6 k7 k8 k9 k10 k11 bl
  obtain ⟨k0, k1, k2, k3, k4, k5, k6, k7, k8, k9, k10, k11⟩ := cbox_cells 6 xo xr xw xm xu xg xd xq xb xy xa xn xc xF hB.out.box
  go_wp2_with (first
    | (at_builtin; refine app_ref rfl _ _ rfl hB.out rfl v1 _ _ rfl ow.out (by simp [leB_len]) ?_; intro v' w' hB2; replace hB := Lib.hid hB2; clear hB2 k0 k1 k2 k3 k4 k5 k6 k7 k8 k9 k10 k11; obtain ⟨k0, k1, k2, k3, k4, k5, k6, k7, k8, k9, k10, k11⟩ := cbox_cells 6 xo xr xw xm xu xg xd xq xb xy xa xn xc xF hB.out.box)
    | (at_builtin; refine app_lit rfl _ _ rfl hB.out rfl [xu, xg] _ _ rfl (by simp) rfl (by simp [leB_len]) ?_; intro v' w' hB2; replace hB := Lib.hid hB2; clear hB2 k0 k1 k2 k3 k4 k5 k6 k7 k8 k9 k10 k11; obtain ⟨k0, k1, k2, k3, k4, k5, k6, k7, k8, k9, k10, k11⟩ := cbox_cells 6 xo xr xw xm xu xg xd xq xb xy xa xn xc xF hB.out.box))
  go_ret
  exact ⟨_, rfl, hB.out.own, hB.out.all⟩

set_option maxRecDepth 100000 in
set_option maxHeartbeats 3200000 in
theorem bytes_7 (xo xr xw xm xu xg xd xq : Int) (xb xy : Bool) (xa : Option Addr) (xn xc : Nat) (xF : Nat → Int) (w : World) (h_xd : in2 xd) :
    Calls Try.prog 41 #[.agg #[.int .i64 7, .int .i64 xo, .slice xa xn xc, .int .i64 xr, .int .i64 xw, .bool xb, .int .i64 xm, .int .i64 xu, .int .i64 xg, .int .i64 xd, .int .i64 xq, .bool xy]] w fun e w' => by41 ([(7 : Int)] ++ leB xd 2) w e w' := by
  have b_xd0 : 0 ≤ xd := h_xd.1
  have b_xd1 : xd ≤ 65535 := h_xd.2
  clear h_xd
  go_enter Try.func41, Try.ntmps41
  go_upto_region 2 with fail
  have hB := Lib.hid (BS.first (w := w) (X := #[.int .i64 7, .int .i64 xo, .slice xa xn xc, .int .i64 xr, .int .i64 xw, .bool xb, .int .i64 xm, .int .i64 xu, .int .i64 xg, .int .i64 xd, .int .i64 xq, .bool xy]) 7)
  generalize hW : World.alloc (World.alloc w _) _ = W at *
  replace hW := Lib.hid hW
  generalize hV : Value.slice (some ⟨w.heap.size + 1, 0, none⟩) 1 1 = V at *
  replace hV := Lib.hid hV
  obtain ⟨k0, k1, k2, k3, k4, k5, k6, k7, k8, k9, k10, k11⟩ := cbox_cells 7 xo xr xw xm xu xg xd xq xb xy xa xn xc xF hB.out.box
  go_wp2_with fail
  refine (refBytes _ xd (by omega) 2 (by decide)).mono ?_
  rintro e w1 ⟨v1, rfl, ow, bl⟩
  replace hB := Lib.hid (hB.out.call bl)
  replace ow := Lib.hid ow
  clear k0 k1 k2 k3 k4 k5 k6 k7 k8 k9 k10 k11 bl
  obtain ⟨k0, k1, k2, k3, k4, k5, k6, k7, k8, k9, k10, k11⟩ := cbox_cells 7 xo xr xw xm xu xg xd xq xb xy xa xn xc xF hB.out.box
  go_wp2_with (first
    | (at_builtin; refine app_ref rfl _ _ rfl hB.out rfl v1 _ _ rfl ow.out (by simp [leB_len]) ?_; intro v' w' hB2; replace hB := Lib.hid hB2; clear hB2 k0 k1 k2 k3 k4 k5 k6 k7 k8 k9 k10 k11; obtain ⟨k0, k1, k2, k3, k4, k5, k6, k7, k8, k9, k10, k11⟩ := cbox_cells 7 xo xr xw xm xu xg xd xq xb xy xa xn xc xF hB.out.box))
  go_ret
  exact ⟨_, rfl, hB.out.own, hB.out.all⟩

set_option maxRecDepth 100000 in
set_option maxHeartbeats 3200000 in
theorem bytes_8 (xo xr xw xm xu xg xd xq : Int) (xb xy : Bool) (xa : Option Addr) (xn xc : Nat) (xF : Nat → Int) (w : World) (h_xq : 0 ≤ xq ∧ xq ≤ 4294967295) :
    Calls Try.prog 41 #[.agg #[.int .i64 8, .int .i64 xo, .slice xa xn xc, .int .i64 xr, .int .i64 xw, .bool xb, .int .i64 xm, .int .i64 xu, .int .i64 xg, .int .i64 xd, .int .i64 xq, .bool xy]] w fun e w' => by41 ([(8 : Int)] ++ leB xq 4 ++ [fl xy]) w e w' := by
  have b_xq0 : 0 ≤ xq := h_xq.1
  have b_xq1 : xq ≤ 4294967295 := h_xq.2
  clear h_xq
  go_enter Try.func41, Try.ntmps41
  go_upto_region 2 with fail
  have hB := Lib.hid (BS.first (w := w) (X := #[.int .i64 8, .int .i64 xo, .slice xa xn xc, .int .i64 xr, .int .i64 xw, .bool xb, .int .i64 xm, .int .i64 xu, .int .i64 xg, .int .i64 xd, .int .i64 xq, .bool xy]) 8)
  generalize hW : World.alloc (World.alloc w _) _ = W at *
  replace hW := Lib.hid hW
  generalize hV : Value.slice (some ⟨w.heap.size + 1, 0, none⟩) 1 1 = V at *
  replace hV := Lib.hid hV
  obtain ⟨k0, k1, k2, k3, k4, k5, k6, k7, k8, k9, k10, k11⟩ := cbox_cells 8 xo xr xw xm xu xg xd xq xb xy xa xn xc xF hB.out.box
  go_wp2_with fail
  refine (refBytes _ xq (by omega) 4 (by decide)).mono ?_
  rintro e w1 ⟨v1, rfl, ow, bl⟩
  replace hB := Lib.hid (hB.out.call bl)
  replace ow := Lib.hid ow
  clear k0 k1 k2 k3 k4 k5 k6 k7 k8 k9 k10 k11 bl
  obtain ⟨k0, k1, k2, k3, k4, k5, k6, k7, k8, k9, k10, k11⟩ := cbox_cells 8 xo xr xw xm xu xg xd xq xb xy xa xn xc xF hB.out.box
  go_wp2_with (first
    | (at_builtin; refine app_ref rfl _ _ rfl hB.out rfl v1 _ _ rfl ow.out (by simp [leB_len]) ?_; intro v' w' hB2; replace hB := Lib.hid hB2; clear hB2 k0 k1 k2 k3 k4 k5 k6 k7 k8 k9 k10 k11; obtain ⟨k0, k1, k2, k3, k4, k5, k6, k7, k8, k9, k10, k11⟩ := cbox_cells 8 xo xr xw xm xu xg xd xq xb xy xa xn xc xF hB.out.box)
    | (at_builtin; refine app_lit rfl _ _ rfl hB.out rfl [fl xy] _ _ rfl (by simp) rfl (by simp [leB_len]) ?_; intro v' w' hB2; replace hB := Lib.hid hB2; clear hB2 k0 k1 k2 k3 k4 k5 k6 k7 k8 k9 k10 k11; obtain ⟨k0, k1, k2, k3, k4, k5, k6, k7, k8, k9, k10, k11⟩ := cbox_cells 8 xo xr xw xm xu xg xd xq xb xy xa xn xc xF hB.out.box))
  refine (flag72 _ xy).mono ?_
  rintro e w1 ⟨rfl, rfl⟩
  go_wp2_with (first
    | (at_builtin; refine app_lit rfl _ _ rfl hB.out rfl [fl xy] _ _ rfl (by simp) rfl (by simp [leB_len]) ?_; intro v' w' hB2; replace hB := Lib.hid hB2; clear hB2 k0 k1 k2 k3 k4 k5 k6 k7 k8 k9 k10 k11; obtain ⟨k0, k1, k2, k3, k4, k5, k6, k7, k8, k9, k10, k11⟩ := cbox_cells 8 xo xr xw xm xu xg xd xq xb xy xa xn xc xF hB.out.box))
  go_ret
  exact ⟨_, rfl, hB.out.own, hB.out.all⟩

set_option maxRecDepth 100000 in
set_option maxHeartbeats 3200000 in
theorem bytes_1 (xo xr xw xm xu xg xd xq : Int) (xb xy : Bool) (xa : Option Addr) (xn xc : Nat) (xF : Nat → Int) (w : World) (hx : IntsAt w .i64 xa xn xF) (hn1 : 1 ≤ xn) (hn2 : xn ≤ 60) (h_xo : in1 xo) (h_xr : in1 xr) (h_xw : in2 xw) (hXF : ∀ j, j < xn → in1 (xF j)) :
    Calls Try.prog 41 #[.agg #[.int .i64 1, .int .i64 xo, .slice xa xn xc, .int .i64 xr, .int .i64 xw, .bool xb, .int .i64 xm, .int .i64 xu, .int .i64 xg, .int .i64 xd, .int .i64 xq, .bool xy]] w fun e w' => by41 ([(1 : Int)] ++ [xo, (xn : Int)] ++ (List.range xn).map xF ++ [xr] ++ leB xw 2 ++ [fl xb]) w e w' := by
  have b_xo0 : 0 ≤ xo := h_xo.1
  have b_xo1 : xo ≤ 255 := h_xo.2
  clear h_xo
  have b_xr0 : 0 ≤ xr := h_xr.1
  have b_xr1 : xr ≤ 255 := h_xr.2
  clear h_xr
  have b_xw0 : 0 ≤ xw := h_xw.1
  have b_xw1 : xw ≤ 65535 := h_xw.2
  clear h_xw
  have HX : Hid (∀ w', Below w.heap.size w w' → IntsAt w' .i64 xa xn xF) := Lib.hid (fun w' hb => hx.below hb)
  replace hXF := Lib.hid hXF
  have hN1 : (0 : Int) ≤ xn := by omega
  have hN2 : (xn : Int) ≤ 255 := by omega
  clear hx
  go_enter Try.func41, Try.ntmps41
  go_upto_region 2 with fail
  have hB := Lib.hid (BS.first (w := w) (X := #[.int .i64 1, .int .i64 xo, .slice xa xn xc, .int .i64 xr, .int .i64 xw, .bool xb, .int .i64 xm, .int .i64 xu, .int .i64 xg, .int .i64 xd, .int .i64 xq, .bool xy]) 1)
  generalize hW : World.alloc (World.alloc w _) _ = W at *
  replace hW := Lib.hid hW
  generalize hV : Value.slice (some ⟨w.heap.size + 1, 0, none⟩) 1 1 = V at *
  replace hV := Lib.hid hV
  obtain ⟨k0, k1, k2, k3, k4, k5, k6, k7, k8, k9, k10, k11⟩ := cbox_cells 1 xo xr xw xm xu xg xd xq xb xy xa xn xc xF hB.out.box
  go_wp2_with (first
    | (at_builtin; refine app_lit rfl _ _ rfl hB.out rfl [xo, (xn : Int)] _ _ rfl (by simp) rfl (by simp [leB_len]) ?_; intro v' w' hB2; replace hB := Lib.hid hB2; clear hB2 k0 k1 k2 k3 k4 k5 k6 k7 k8 k9 k10 k11; obtain ⟨k0, k1, k2, k3, k4, k5, k6, k7, k8, k9, k10, k11⟩ := cbox_cells 1 xo xr xw xm xu xg xd xq xb xy xa xn xc xF hB.out.box))
  go_loopw [3, 26] (fun v i wr => ∃ j : Nat, j ≤ xn ∧ i = .int .i64 j ∧ Hid (BS w #[.int .i64 1, .int .i64 xo, .slice xa xn xc, .int .i64 xr, .int .i64 xw, .bool xb, .int .i64 xm, .int .i64 xu, .int .i64 xg, .int .i64 xd, .int .i64 xq, .bool xy] v ([(1 : Int)] ++ [xo, (xn : Int)] ++ (List.range j).map xF) wr)) (fun _ i _ => xn - (intOf i).toNat)
  case atStart => exact ⟨0, Nat.zero_le _, rfl, Lib.hid (by simpa using hB.out)⟩
  case round =>
    clear k0 k1 k2 k3 k4 k5 k6 k7 k8 k9 k10 k11 hB
    obtain ⟨j, hj, rfl, hB⟩ := hrel
    obtain ⟨k0, k1, k2, k3, k4, k5, k6, k7, k8, k9, k10, k11⟩ := cbox_cells 1 xo xr xw xm xu xg xd xq xb xy xa xn xc xF hB.out.box
    by_cases hlt : j < xn
    · have hlt' : (j : Int) < xn := by omega
      obtain ⟨b, off, rfl, hbb, hc⟩ := (HX.out _ hB.out.all).2 (by omega)
      have cj := hc j hlt
      have hf := hXF.out j hlt
      have hf0 : 0 ≤ xF j := hf.1
      have hf1 : xF j ≤ 255 := hf.2
      clear hc hf
      have hbz := hB.out.size
      generalize hxj : xF j = xj at *
      replace hxj := Lib.hid hxj
      go_wp2_with (at_builtin; refine app_lit rfl _ _ rfl hB.out rfl [xj] _ _ rfl (by simp) rfl (by simp <;> omega) ?_; intro v' w' hB2; replace hB := Lib.hid hB2; clear hB2 k0 k1 k2 k3 k4 k5 k6 k7 k8 k9 k10 k11 cj)
      have hE : [(1 : Int)] ++ [xo, (xn : Int)] ++ (List.range j).map xF ++ [xj] = [(1 : Int)] ++ [xo, (xn : Int)] ++ (List.range (j + 1)).map xF := by rw [← hxj.out, List.range_succ]; simp
      rw [hE] at hB
      clear hE
      exact ⟨⟨j + 1, by omega, by go_num, hB⟩, by simp [intOf]; omega⟩
    · obtain rfl : j = xn := by omega
      have hlt' : ¬ (j : Int) < j := by omega
      go_wp2_with (first
        | (at_builtin; refine app_lit rfl _ _ rfl hB.out rfl [xr] _ _ rfl (by simp) rfl (by simp <;> omega) ?_; intro v' w' hB2; replace hB := Lib.hid hB2; clear hB2 k0 k1 k2 k3 k4 k5 k6 k7 k8 k9 k10 k11; obtain ⟨k0, k1, k2, k3, k4, k5, k6, k7, k8, k9, k10, k11⟩ := cbox_cells 1 xo xr xw xm xu xg xd xq xb xy xa j xc xF hB.out.box))
      refine (refBytes _ xw (by omega) 2 (by decide)).mono ?_
      rintro e w1 ⟨v1, rfl, ow, bl⟩
      replace hB := Lib.hid (hB.out.call bl)
      replace ow := Lib.hid ow
      clear k0 k1 k2 k3 k4 k5 k6 k7 k8 k9 k10 k11 bl
      obtain ⟨k0, k1, k2, k3, k4, k5, k6, k7, k8, k9, k10, k11⟩ := cbox_cells 1 xo xr xw xm xu xg xd xq xb xy xa j xc xF hB.out.box
      go_wp2_with (first
        | (at_builtin; refine app_ref rfl _ _ rfl hB.out rfl v1 _ _ rfl ow.out (by simp [leB_len] <;> omega) ?_; intro v' w' hB2; replace hB := Lib.hid hB2; clear hB2 k0 k1 k2 k3 k4 k5 k6 k7 k8 k9 k10 k11; obtain ⟨k0, k1, k2, k3, k4, k5, k6, k7, k8, k9, k10, k11⟩ := cbox_cells 1 xo xr xw xm xu xg xd xq xb xy xa j xc xF hB.out.box))
      refine (flag72 _ xb).mono ?_
      rintro e w1 ⟨rfl, rfl⟩
      go_wp2_with (first
        | (at_builtin; refine app_lit rfl _ _ rfl hB.out rfl [fl xb] _ _ rfl (by simp) rfl (by simp [leB_len] <;> omega) ?_; intro v' w' hB2; replace hB := Lib.hid hB2; clear hB2 k0 k1 k2 k3 k4 k5 k6 k7 k8 k9 k10 k11; obtain ⟨k0, k1, k2, k3, k4, k5, k6, k7, k8, k9, k10, k11⟩ := cbox_cells 1 xo xr xw xm xu xg xd xq xb xy xa j xc xF hB.out.box))
      go_ret
      exact ⟨_, rfl, hB.out.own, hB.out.all⟩

theorem catP_snoc (ps : List (Int × Nat)) (x : Int) (k : Nat) : catP (ps ++ [(x, k)]) = catP ps ++ leB x k := by simp [catP]

/-- Bytes at every formed command. -/
theorem bytes41_any (xk xo xr xw xm xu xg xd xq : Int) (xb xy : Bool) (xa : Option Addr) (xn xc : Nat) (xF : Nat → Int) (w : World) (hx : IntsAt w .i64 xa xn xF) (hF : formB xk xo xr xw xm xu xg xd xq xb xy xn xF = true) :
    Calls Try.prog 41 #[.agg #[.int .i64 xk, .int .i64 xo, .slice xa xn xc, .int .i64 xr, .int .i64 xw, .bool xb, .int .i64 xm, .int .i64 xu, .int .i64 xg, .int .i64 xd, .int .i64 xq, .bool xy]] w fun e w' => by41 (catP (wrP xk xo xr xw xm xu xg xd xq xb xy xn xF)) w e w' := by
  cases h1 : (xk == 1)
  rotate_left
  · obtain rfl : xk = 1 := by simpa using h1
    have hc : 1 ≤ xn ∧ xn ≤ 60 ∧ in1 xo ∧ in1 xr ∧ in2 xw ∧ ∀ j, j < xn → in1 (xF j) := by
      by_cases hc : 1 ≤ xn ∧ xn ≤ 60 ∧ in1 xo ∧ in1 xr ∧ in2 xw ∧ ∀ j, j < xn → in1 (xF j)
      · exact hc
      · rw [fB1_bad 1 xo xr xw xm xu xg xd xq xb xy xa xn xc xF hc] at hF
        cases hF
    obtain ⟨h1, h2, h3, h4, h5, h6⟩ := hc
    have e : catP (wrP 1 xo xr xw xm xu xg xd xq xb xy xn xF) = [(1 : Int)] ++ [xo, (xn : Int)] ++ (List.range xn).map xF ++ [xr] ++ leB xw 2 ++ [fl xb] := by
      have hm : ∀ l : List Nat, (∀ j ∈ l, in1 (xF j)) → (l.map (fun j => (xF j, 1))).flatMap (fun p => leB p.1 p.2) = l.map xF := by
        intro l hl
        induction l with
        | nil => rfl
        | cons a l ih =>
          simp only [List.map_cons, List.flatMap_cons]
          rw [ih (fun j hj => hl j (List.mem_cons_of_mem _ hj)), leB1 (hl a List.mem_cons_self)]
          rfl
      have hm' := hm (List.range xn) (fun j hj => h6 j (List.mem_range.1 hj))
      simp only [wrP, if_true, catP, List.flatMap_append, hm', List.flatMap_cons, List.flatMap_nil, List.append_nil, leB1 in1_1, leB1 h3, leB1 h4, leB1 (⟨by omega, by omega⟩ : in1 (xn : Int)), leB1 (in1_fl xb)]
      simp
    rw [e]
    exact bytes_1 xo xr xw xm xu xg xd xq xb xy xa xn xc xF w hx h1 h2 h3 h4 h5 h6
  cases h2 : (xk == 2)
  rotate_left
  · obtain rfl : xk = 2 := by simpa using h2
    have hc : in2 xm := by
      by_cases hc : in2 xm
      · exact hc
      · rw [fB2_bad 2 xo xr xw xm xu xg xd xq xb xy xa xn xc xF hc] at hF
        cases hF
    have h := bytes_2 xo xr xw xm xu xg xd xq xb xy xa xn xc xF w hc
    have e : catP (wrP 2 xo xr xw xm xu xg xd xq xb xy xn xF) = [(2 : Int)] ++ leB xm 2 := by
      simp [wrP, catP, leB1 in1_2]
    rw [e]
    exact h
  cases h3 : (xk == 3)
  rotate_left
  · obtain rfl : xk = 3 := by simpa using h3
    have hc : in2 xm := by
      by_cases hc : in2 xm
      · exact hc
      · rw [fB3_bad 3 xo xr xw xm xu xg xd xq xb xy xa xn xc xF hc] at hF
        cases hF
    have h := bytes_3 xo xr xw xm xu xg xd xq xb xy xa xn xc xF w hc
    have e : catP (wrP 3 xo xr xw xm xu xg xd xq xb xy xn xF) = [(3 : Int)] ++ leB xm 2 := by
      simp [wrP, catP, leB1 in1_3]
    rw [e]
    exact h
  cases h4 : (xk == 4)
  rotate_left
  · obtain rfl : xk = 4 := by simpa using h4
    have hc : in2 xm := by
      by_cases hc : in2 xm
      · exact hc
      · rw [fB4_bad 4 xo xr xw xm xu xg xd xq xb xy xa xn xc xF hc] at hF
        cases hF
    have h := bytes_4 xo xr xw xm xu xg xd xq xb xy xa xn xc xF w hc
    have e : catP (wrP 4 xo xr xw xm xu xg xd xq xb xy xn xF) = [(4 : Int)] ++ leB xm 2 := by
      simp [wrP, catP, leB1 in1_4]
    rw [e]
    exact h
  cases h5 : (xk == 5)
  rotate_left
  · obtain rfl : xk = 5 := by simpa using h5
    have hc : in2 xm := by
      by_cases hc : in2 xm
      · exact hc
      · rw [fB5_bad 5 xo xr xw xm xu xg xd xq xb xy xa xn xc xF hc] at hF
        cases hF
    have h := bytes_5 xo xr xw xm xu xg xd xq xb xy xa xn xc xF w hc
    have e : catP (wrP 5 xo xr xw xm xu xg xd xq xb xy xn xF) = [(5 : Int)] ++ leB xm 2 := by
      simp [wrP, catP, leB1 in1_5]
    rw [e]
    exact h
  cases h6 : (xk == 6)
  rotate_left
  · obtain rfl : xk = 6 := by simpa using h6
    have hc : in2 xm ∧ in1 xu ∧ in1 xg := by
      by_cases hc : in2 xm ∧ in1 xu ∧ in1 xg
      · exact hc
      · rw [fB6_bad 6 xo xr xw xm xu xg xd xq xb xy xa xn xc xF hc] at hF
        cases hF
    have h := bytes_6 xo xr xw xm xu xg xd xq xb xy xa xn xc xF w hc.1 hc.2.1 hc.2.2
    have e : catP (wrP 6 xo xr xw xm xu xg xd xq xb xy xn xF) = [(6 : Int)] ++ leB xm 2 ++ [xu, xg] := by
      simp [wrP, catP, leB1 in1_6, leB1 hc.2.1, leB1 hc.2.2]
    rw [e]
    exact h
  cases h7 : (xk == 7)
  rotate_left
  · obtain rfl : xk = 7 := by simpa using h7
    have hc : in2 xd := by
      by_cases hc : in2 xd
      · exact hc
      · rw [fB7_bad 7 xo xr xw xm xu xg xd xq xb xy xa xn xc xF hc] at hF
        cases hF
    have h := bytes_7 xo xr xw xm xu xg xd xq xb xy xa xn xc xF w hc
    have e : catP (wrP 7 xo xr xw xm xu xg xd xq xb xy xn xF) = [(7 : Int)] ++ leB xd 2 := by
      simp [wrP, catP, leB1 in1_7]
    rw [e]
    exact h
  cases h8 : (xk == 8)
  rotate_left
  · obtain rfl : xk = 8 := by simpa using h8
    have hc : 0 ≤ xq ∧ xq ≤ 4294967295 := by
      by_cases hc : 0 ≤ xq ∧ xq ≤ 4294967295
      · exact hc
      · rw [fB8_bad 8 xo xr xw xm xu xg xd xq xb xy xa xn xc xF hc] at hF
        cases hF
    have h := bytes_8 xo xr xw xm xu xg xd xq xb xy xa xn xc xF w hc
    have e : catP (wrP 8 xo xr xw xm xu xg xd xq xb xy xn xF) = [(8 : Int)] ++ leB xq 4 ++ [fl xy] := by
      simp [wrP, catP, leB1 in1_8, leB1 (in1_fl xy)]
    rw [e]
    exact h
  rw [fB0 xk xo xr xw xm xu xg xd xq xb xy xa xn xc xF h1 h2 h3 h4 h5 h6 h7 h8] at hF
  cases hF

end Go.Proofs.Ytnkgbigjpihfeaa.Kd
