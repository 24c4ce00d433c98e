/- command.Decode. -/
import Derived.Test.YtnkgbigjpihfeaaEd
import Derived.Test.YtnkgbigjpihfeaaDe
set_option linter.unusedVariables false
set_option linter.unusedSimpArgs false
namespace Go.Proofs.Ytnkgbigjpihfeaa.Kd
open Go.RowKit Go.Proofs.Ytnkgbigjpihfeaa.Lib
open Go.Proofs.Ytnkgbigjpihfeaa.Ma (alloc_keep alloc_at cbox_cells setRow_h)

theorem wrP_congr {k o r w m u g d q : Int} {b y : Bool} {n : Nat} {F G : Nat → Int} (h : ∀ j, j < n → F j = G j) : wrP k o r w m u g d q b y n F = wrP k o r w m u g d q b y n G := by
  unfold wrP
  rw [show (List.range n).map (fun j => (F j, 1)) = (List.range n).map (fun j => (G j, 1)) from List.map_congr_left (fun j hj => by rw [h j (List.mem_range.1 hj)])]
theorem formB_congr {k o r w m u g d q : Int} {b y : Bool} {n : Nat} {F G : Nat → Int} (h : ∀ j, j < n → F j = G j) : formB k o r w m u g d q b y n F = formB k o r w m u g d q b y n G := by
  unfold formB
  rw [wrP_congr h]

/-- What decoding gives. -/
def dcPost (L : List Int) (w : World) (e : Ending) (w' : World) : Prop :=
  Below w.heap.size w w' ∧
  ((∃ (xk xo xr xw xm xu xg xd xq : Int) (xb xy : Bool) (xa : Option Addr) (xn xc : Nat) (xF : Nat → Int),
      e = .returned (.tuple #[.agg #[.int .i64 xk, .int .i64 xo, .slice xa xn xc, .int .i64 xr, .int .i64 xw, .bool xb, .int .i64 xm, .int .i64 xu, .int .i64 xg, .int .i64 xd, .int .i64 xq, .bool xy], .int .i64 0]) ∧ IntsAt w' .i64 xa xn xF ∧ xn ≤ 255 ∧ formB xk xo xr xw xm xu xg xd xq xb xy xn xF = true ∧ L = catP (wrP xk xo xr xw xm xu xg xd xq xb xy xn xF) ∧
      ∀ (k0 o0 r0 w0 m0 u0 g0 d0 q0 : Int) (b0 y0 : Bool) (n0 : Nat) (F0 : Nat → Int), formB k0 o0 r0 w0 m0 u0 g0 d0 q0 b0 y0 n0 F0 = true → L = catP (wrP k0 o0 r0 w0 m0 u0 g0 d0 q0 b0 y0 n0 F0) → xk = k0 ∧ xo = o0 ∧ xr = r0 ∧ xw = w0 ∧ xm = m0 ∧ xu = u0 ∧ xg = g0 ∧ xd = d0 ∧ xq = q0 ∧ xb = b0 ∧ xy = y0 ∧ xn = n0 ∧ ∀ j, j < xn → xF j = F0 j) ∨
   (e = .returned (.tuple #[.agg #[.int .i64 0, .int .i64 0, .slice none 0 0, .int .i64 0, .int .i64 0, .bool false, .int .i64 0, .int .i64 0, .int .i64 0, .int .i64 0, .int .i64 0, .bool false], .int .i64 3]) ∧ ∀ (k0 o0 r0 w0 m0 u0 g0 d0 q0 : Int) (b0 y0 : Bool) (n0 : Nat) (F0 : Nat → Int), formB k0 o0 r0 w0 m0 u0 g0 d0 q0 b0 y0 n0 F0 = true → L = catP (wrP k0 o0 r0 w0 m0 u0 g0 d0 q0 b0 y0 n0 F0) → False))

theorem ret_dec {w : World} {g : Nat} {cs : Array Value} {v : Value} {tmps : Array Value} (hg : w.heap[g]? = some (.cells cs 55 (0, 0))) (hs : cs.size = 12) (h4 : tmps.getD 2 undef = .pointer (some ⟨g, 0, none⟩)) (h5 : tmps.getD 3 undef = v) :
    (results Try.f46 tmps).run Try.prog w = .ok (.tuple #[.agg cs, v]) w := by
  have h4' : tmps[2]?.getD undef = .pointer (some ⟨g, 0, none⟩) := by simpa using h4
  have h5' : tmps[3]?.getD undef = v := by simpa using h5
  rw [results_cell_tmp (p := 2) (u := 3) (ty := 55) rfl]
  have hi : (Try.prog.info? 55).map (·.size) = some cs.size := by rw [hs]; kernel_rfl
  simp [h4', h5', asAddr, run_loadVar_row w g 55 55 cs (0, 0) _ hg Try.underlying55 rfl hi, Result.andThen]

/-- What RD tells, of all that was read. -/
theorem rd_full {L L' : List Int} {bad : Bool} {xk xo xr xw xm xu xg xd xq : Int} {xb xy : Bool} {xn : Nat} {xF : Nat → Int} (h : RD L xk xo xr xw xm xu xg xd xq xb xy xn xF L' bad) {k0 o0 r0 w0 m0 u0 g0 d0 q0 : Int} {b0 y0 : Bool} {n0 : Nat} {F0 : Nat → Int} (hf : formB k0 o0 r0 w0 m0 u0 g0 d0 q0 b0 y0 n0 F0 = true) (hL : L = catP (wrP k0 o0 r0 w0 m0 u0 g0 d0 q0 b0 y0 n0 F0)) : bad = false ∧ L' = [] ∧ xk = k0 ∧ xo = o0 ∧ xr = r0 ∧ xw = w0 ∧ xm = m0 ∧ xu = u0 ∧ xg = g0 ∧ xd = d0 ∧ xq = q0 ∧ xb = b0 ∧ xy = y0 ∧ xn = n0 ∧ ∀ j, j < xn → xF j = F0 j := by
  have := h.2 k0 o0 r0 w0 m0 u0 g0 d0 q0 b0 y0 n0 F0 [] hf (by rw [hL, List.append_nil])
  exact this
theorem rd_formed {L L' : List Int} {bad : Bool} {xk xo xr xw xm xu xg xd xq : Int} {xb xy : Bool} {xn : Nat} {xF : Nat → Int} (h : RD L xk xo xr xw xm xu xg xd xq xb xy xn xF L' bad) {k0 o0 r0 w0 m0 u0 g0 d0 q0 : Int} {b0 y0 : Bool} {n0 : Nat} {F0 : Nat → Int} (hf : formB k0 o0 r0 w0 m0 u0 g0 d0 q0 b0 y0 n0 F0 = true) (hL : L = catP (wrP k0 o0 r0 w0 m0 u0 g0 d0 q0 b0 y0 n0 F0)) : formB xk xo xr xw xm xu xg xd xq xb xy xn xF = true := by
  obtain ⟨_, _, rfl, rfl, rfl, rfl, rfl, rfl, rfl, rfl, rfl, rfl, rfl, rfl, hF⟩ := rd_full h hf hL
  rw [formB_congr hF]
  exact hf

set_option maxRecDepth 100000 in
set_option maxHeartbeats 3200000 in
theorem decode_any {w : World} {a : Option Addr} {n c : Nat} {F : Nat → Int} (h : IntsAt w .u8 a n F) (ha : a = none → n = 0) (hn : n ≤ 1000000) (hF : ∀ j, j < n → 0 ≤ F j ∧ F j < 256) :
    Calls Try.prog 46 #[.slice a n c] w fun e w' => dcPost (lof n F) w e w' := by
  have hb0 : Below w.heap.size w (w.alloc (.cells #[.int .i64 0, .int .i64 0, .slice none 0 0, .int .i64 0, .int .i64 0, .bool false, .int .i64 0, .int .i64 0, .int .i64 0, .int .i64 0, .int .i64 0, .bool false] 55)) := (Below.refl _ _).alloc (Nat.le_refl _) _
  have hz0 : (w.alloc (.cells #[.int .i64 0, .int .i64 0, .slice none 0 0, .int .i64 0, .int .i64 0, .bool false, .int .i64 0, .int .i64 0, .int .i64 0, .int .i64 0, .int .i64 0, .bool false] 55)).heap[w.heap.size]? = some (.cells #[.int .i64 0, .int .i64 0, .slice none 0 0, .int .i64 0, .int .i64 0, .bool false, .int .i64 0, .int .i64 0, .int .i64 0, .int .i64 0, .int .i64 0, .bool false] 55 (0, 0)) := heap_alloc_new _ _
  have hs0 : (w.alloc (.cells #[.int .i64 0, .int .i64 0, .slice none 0 0, .int .i64 0, .int .i64 0, .bool false, .int .i64 0, .int .i64 0, .int .i64 0, .int .i64 0, .int .i64 0, .bool false] 55)).heap.size = w.heap.size + 1 := by simp
  have H16 := Lib.hid (newIn_l (c := c) (h.below hb0) ha (by omega) hF)
  generalize lof n F = L at *
  clear h hF ha
  replace hb0 := Lib.hid hb0
  replace hz0 := Lib.hid hz0
  replace hs0 := Lib.hid hs0
  go_enter Try.func46, Try.ntmps46
  go_wp2_with fail
  generalize w.alloc (.cells #[.int .i64 0, .int .i64 0, .slice none 0 0, .int .i64 0, .int .i64 0, .bool false, .int .i64 0, .int .i64 0, .int .i64 0, .int .i64 0, .int .i64 0, .bool false] 55) = w0 at *
  refine H16.out.mono ?_
  rintro e w1 ⟨I, rfl, hI, hIs, b1⟩
  have hsz := hs0.out
  have hs1 := b1.size
  have hz1 := Lib.hid ((b1.block w.heap.size (by omega)).trans hz0.out)
  have hb1 := Lib.hid (hb0.out.trans (b1.mono (by omega)))
  have hIw : w.heap.size < I := by omega
  have hIl := hI.lt
  have HR := Lib.hid (read_any hI.inD (Nat.le_refl _))
  clear b1 hI hsz hs1
  go_wp2_with fail
  refine HR.out.mono ?_
  rintro e w2 ⟨xk, xo, xr, xw, xm, xu, xg, xd, xq, xb, xy, xa, xn, xc, xF, L', bad, rfl, hk, hi, hx, ha, hnew, hn255, hXF, hRD, hI2, hg2⟩
  have hz2 := (hg2.block w.heap.size (by omega) (fun e => by injection e with e; omega)).trans hz1.out
  have hb2 := hb1.out.trans ((grown_below hg2 hIl).mono (by omega))
  have hzl := (Array.getElem?_eq_some_iff.1 hz2).1
  have hnw : ∀ p, xa = some p → w.heap.size < p.block := fun p e => by have := hnew p e; omega
  have hB3 : (w2.alloc (.cells #[.int .i64 xk, .int .i64 xo, .slice xa xn xc, .int .i64 xr, .int .i64 xw, .bool xb, .int .i64 xm, .int .i64 xu, .int .i64 xg, .int .i64 xd, .int .i64 xq, .bool xy] 55)).heap[w2.heap.size]? = some (.cells #[.int .i64 xk, .int .i64 xo, .slice xa xn xc, .int .i64 xr, .int .i64 xw, .bool xb, .int .i64 xm, .int .i64 xu, .int .i64 xg, .int .i64 xd, .int .i64 xq, .bool xy] 55 (0, 0)) := heap_alloc_new _ _
  have hz3 : (w2.alloc (.cells #[.int .i64 xk, .int .i64 xo, .slice xa xn xc, .int .i64 xr, .int .i64 xw, .bool xb, .int .i64 xm, .int .i64 xu, .int .i64 xg, .int .i64 xd, .int .i64 xq, .bool xy] 55)).heap[w.heap.size]? = some (.cells #[.int .i64 0, .int .i64 0, .slice none 0 0, .int .i64 0, .int .i64 0, .bool false, .int .i64 0, .int .i64 0, .int .i64 0, .int .i64 0, .int .i64 0, .bool false] 55 (0, 0)) := alloc_keep hz2
  have hb3 : Below w.heap.size w (w2.alloc (.cells #[.int .i64 xk, .int .i64 xo, .slice xa xn xc, .int .i64 xr, .int .i64 xw, .bool xb, .int .i64 xm, .int .i64 xu, .int .i64 xg, .int .i64 xd, .int .i64 xq, .bool xy] 55)) := hb2.alloc hb2.size _
  have hx3 := Ma.ints_alloc hx (.cells #[.int .i64 xk, .int .i64 xo, .slice xa xn xc, .int .i64 xr, .int .i64 xw, .bool xb, .int .i64 xm, .int .i64 xu, .int .i64 xg, .int .i64 xd, .int .i64 xq, .bool xy] 55)
  have H23 := done_r (hI2.alloc (.cells #[.int .i64 xk, .int .i64 xo, .slice xa xn xc, .int .i64 xr, .int .i64 xw, .bool xb, .int .i64 xm, .int .i64 xu, .int .i64 xg, .int .i64 xd, .int .i64 xq, .bool xy] 55)).inL
  have hl3 : (w2.alloc (.cells #[.int .i64 xk, .int .i64 xo, .slice xa xn xc, .int .i64 xr, .int .i64 xw, .bool xb, .int .i64 xm, .int .i64 xu, .int .i64 xg, .int .i64 xd, .int .i64 xq, .bool xy] 55)).heap.size = w2.heap.size + 1 := by simp
  obtain ⟨k0, k1, k2, k3, k4, k5, k6, k7, k8, k9, k10, k11⟩ := cbox_cells xk xo xr xw xm xu xg xd xq xb xy xa xn xc xF hB3
  have HF40 := formed_any xk xo xr xw xm xu xg xd xq xb xy xa xn xc xF (w2.alloc (.cells #[.int .i64 xk, .int .i64 xo, .slice xa xn xc, .int .i64 xr, .int .i64 xw, .bool xb, .int .i64 xm, .int .i64 xu, .int .i64 xg, .int .i64 xd, .int .i64 xq, .bool xy] 55)) hk hi hx3 (by omega) hXF
  have HDN : Hid (∀ (k0 o0 r0 w0 m0 u0 g0 d0 q0 : Int) (b0 y0 : Bool) (n0 : Nat) (F0 : Nat → Int), formB k0 o0 r0 w0 m0 u0 g0 d0 q0 b0 y0 n0 F0 = true → L = catP (wrP k0 o0 r0 w0 m0 u0 g0 d0 q0 b0 y0 n0 F0) → (!bad && decide (L' = [])) = true ∧ formB xk xo xr xw xm xu xg xd xq xb xy xn xF = true) := Lib.hid (fun k0 o0 r0 w0 m0 u0 g0 d0 q0 b0 y0 n0 F0 hf hL => by
    obtain ⟨e1, e2, _⟩ := rd_full hRD hf hL
    exact ⟨by rw [e1, e2]; rfl, rd_formed hRD hf hL⟩)
  have HOK : Hid ((!bad && decide (L' = [])) = true → formB xk xo xr xw xm xu xg xd xq xb xy xn xF = true → L = catP (wrP xk xo xr xw xm xu xg xd xq xb xy xn xF)) := Lib.hid (fun hd hf => by
    simp only [Bool.and_eq_true, Bool.not_eq_true', decide_eq_true_eq] at hd
    have := hRD.1 hd.1 hf
    rw [hd.2, List.append_nil] at this
    exact this)
  have HEQ : Hid (∀ (k0 o0 r0 w0 m0 u0 g0 d0 q0 : Int) (b0 y0 : Bool) (n0 : Nat) (F0 : Nat → Int), formB k0 o0 r0 w0 m0 u0 g0 d0 q0 b0 y0 n0 F0 = true → L = catP (wrP k0 o0 r0 w0 m0 u0 g0 d0 q0 b0 y0 n0 F0) → xk = k0 ∧ xo = o0 ∧ xr = r0 ∧ xw = w0 ∧ xm = m0 ∧ xu = u0 ∧ xg = g0 ∧ xd = d0 ∧ xq = q0 ∧ xb = b0 ∧ xy = y0 ∧ xn = n0 ∧ ∀ j, j < xn → xF j = F0 j) := Lib.hid (fun k0 o0 r0 w0 m0 u0 g0 d0 q0 b0 y0 n0 F0 hf hL => (rd_full hRD hf hL).2.2)
  generalize hDB : (!bad && decide (L' = [])) = DB at *
  generalize hFB : formB xk xo xr xw xm xu xg xd xq xb xy xn xF = FB at *
  replace hDB := Lib.hid hDB
  replace hFB := Lib.hid hFB
  replace H23 := Lib.hid H23
  replace HF40 := Lib.hid HF40
  replace hz3 := Lib.hid hz3
  replace hb3 := Lib.hid hb3
  replace hx3 := Lib.hid hx3
  replace hB3 := Lib.hid hB3
  replace hnw := Lib.hid hnw
  replace hl3 := Lib.hid hl3
  clear hRD hI2 hg2 hz2 hb2 hXF hnew hi hk ha hx
  go_upto_region 3 with fail
  generalize w2.alloc (.cells #[.int .i64 xk, .int .i64 xo, .slice xa xn xc, .int .i64 xr, .int .i64 xw, .bool xb, .int .i64 xm, .int .i64 xu, .int .i64 xg, .int .i64 xd, .int .i64 xq, .bool xy] 55) = w3 at *
  generalize hP : w2.heap.size = P at *
  replace hP := Lib.hid hP
  cases DB with
  | false =>
    go_wp2_with fail
    refine H23.out.mono ?_
    rintro e w4 ⟨rfl, rfl⟩
    have hzc := hz3.out
    replace HDN := Lib.hid (show ∀ (k0 o0 r0 w0 m0 u0 g0 d0 q0 : Int) (b0 y0 : Bool) (n0 : Nat) (F0 : Nat → Int), formB k0 o0 r0 w0 m0 u0 g0 d0 q0 b0 y0 n0 F0 = true → L = catP (wrP k0 o0 r0 w0 m0 u0 g0 d0 q0 b0 y0 n0 F0) → False from fun k0 o0 r0 w0 m0 u0 g0 d0 q0 b0 y0 n0 F0 hf hL => by have := (HDN.out k0 o0 r0 w0 m0 u0 g0 d0 q0 b0 y0 n0 F0 hf hL).1; simp at this)
    clear HOK HEQ
    go_wp2_with (first
      | (refine wpList_store_row rfl 55 _ _ rfl w.heap.size #[.int .i64 0, .int .i64 0, .slice none 0 0, .int .i64 0, .int .i64 0, .bool false, .int .i64 0, .int .i64 0, .int .i64 0, .int .i64 0, .int .i64 0, .bool false] rfl rfl 55 #[.int .i64 0, .int .i64 0, .slice none 0 0, .int .i64 0, .int .i64 0, .bool false, .int .i64 0, .int .i64 0, .int .i64 0, .int .i64 0, .int .i64 0, .bool false] hzc Ma.info55 rfl (by simp [Value.oneCell']) ?_))
    refine bodyPost_ret (ret_dec (cs := #[.int .i64 0, .int .i64 0, .slice none 0 0, .int .i64 0, .int .i64 0, .bool false, .int .i64 0, .int .i64 0, .int .i64 0, .int .i64 0, .int .i64 0, .bool false]) (setRow_h _ _ _ _ _ _ hzc) rfl rfl rfl) rfl ⟨Ma.below_setRow hb3.out _ _ (Nat.le_refl _), Or.inr ⟨rfl, HDN.out⟩⟩
  | true =>
    go_wp2_with fail
    refine H23.out.mono ?_
    rintro e w4 ⟨rfl, rfl⟩
    go_wp2_with fail
    refine HF40.out.mono ?_
    rintro e w5 ⟨rfl, b5⟩
    have hl4 := hl3.out
    have hP4 := hP.out
    have hs2 := hb3.out.size
    have hzlt := (Array.getElem?_eq_some_iff.1 hz3.out).1
    have hPlt := (Array.getElem?_eq_some_iff.1 hB3.out).1
    have hB5 := (b5.block P hPlt).trans hB3.out
    have hz5 := (b5.block w.heap.size hzlt).trans hz3.out
    have hb5 := Lib.hid (hb3.out.trans (b5.mono hs2))
    have hx5 := hx3.out.below b5
    clear k0 k1 k2 k3 k4 k5 k6 k7 k8 k9 k10 k11 b5 hl4 hP4 hPlt hzlt
    cases FB with
    | false =>
      replace HDN := Lib.hid (show ∀ (k0 o0 r0 w0 m0 u0 g0 d0 q0 : Int) (b0 y0 : Bool) (n0 : Nat) (F0 : Nat → Int), formB k0 o0 r0 w0 m0 u0 g0 d0 q0 b0 y0 n0 F0 = true → L = catP (wrP k0 o0 r0 w0 m0 u0 g0 d0 q0 b0 y0 n0 F0) → False from fun k0 o0 r0 w0 m0 u0 g0 d0 q0 b0 y0 n0 F0 hf hL => by have := (HDN.out k0 o0 r0 w0 m0 u0 g0 d0 q0 b0 y0 n0 F0 hf hL).2; simp at this)
      clear HOK HEQ
      go_wp2_with (first
        | (refine wpList_store_row rfl 55 _ _ rfl w.heap.size #[.int .i64 0, .int .i64 0, .slice none 0 0, .int .i64 0, .int .i64 0, .bool false, .int .i64 0, .int .i64 0, .int .i64 0, .int .i64 0, .int .i64 0, .bool false] rfl rfl 55 #[.int .i64 0, .int .i64 0, .slice none 0 0, .int .i64 0, .int .i64 0, .bool false, .int .i64 0, .int .i64 0, .int .i64 0, .int .i64 0, .int .i64 0, .bool false] hz5 Ma.info55 rfl (by simp [Value.oneCell']) ?_))
      refine bodyPost_ret (ret_dec (cs := #[.int .i64 0, .int .i64 0, .slice none 0 0, .int .i64 0, .int .i64 0, .bool false, .int .i64 0, .int .i64 0, .int .i64 0, .int .i64 0, .int .i64 0, .bool false]) (setRow_h _ _ _ _ _ _ hz5) rfl rfl rfl) rfl ⟨Ma.below_setRow hb5.out _ _ (Nat.le_refl _), Or.inr ⟨rfl, HDN.out⟩⟩
    | true =>
      replace HOK := Lib.hid (show L = catP (wrP xk xo xr xw xm xu xg xd xq xb xy xn xF) from by have := HOK.out; simpa using this)
      have hxf := Lib.hid (Ma.ints_setrow hx5 hnw.out #[.int .i64 xk, .int .i64 xo, .slice xa xn xc, .int .i64 xr, .int .i64 xw, .bool xb, .int .i64 xm, .int .i64 xu, .int .i64 xg, .int .i64 xd, .int .i64 xq, .bool xy])
      clear HDN hx5
      go_wp2_with (first
        | (refine wpList_load_row rfl 55 _ rfl P rfl 55 #[.int .i64 xk, .int .i64 xo, .slice xa xn xc, .int .i64 xr, .int .i64 xw, .bool xb, .int .i64 xm, .int .i64 xu, .int .i64 xg, .int .i64 xd, .int .i64 xq, .bool xy] (0, 0) _ hB5 Try.underlying55 rfl Ma.info55 ?_)
        | (refine wpList_store_row rfl 55 _ _ rfl w.heap.size #[.int .i64 xk, .int .i64 xo, .slice xa xn xc, .int .i64 xr, .int .i64 xw, .bool xb, .int .i64 xm, .int .i64 xu, .int .i64 xg, .int .i64 xd, .int .i64 xq, .bool xy] rfl rfl 55 #[.int .i64 0, .int .i64 0, .slice none 0 0, .int .i64 0, .int .i64 0, .bool false, .int .i64 0, .int .i64 0, .int .i64 0, .int .i64 0, .int .i64 0, .bool false] hz5 Ma.info55 rfl (by simp [Value.oneCell']) ?_))
      refine bodyPost_ret (ret_dec (cs := #[.int .i64 xk, .int .i64 xo, .slice xa xn xc, .int .i64 xr, .int .i64 xw, .bool xb, .int .i64 xm, .int .i64 xu, .int .i64 xg, .int .i64 xd, .int .i64 xq, .bool xy]) (setRow_h _ _ _ _ _ _ hz5) rfl rfl rfl) rfl ⟨Ma.below_setRow hb5.out _ _ (Nat.le_refl _), Or.inl ⟨xk, xo, xr, xw, xm, xu, xg, xd, xq, xb, xy, xa, xn, xc, xF, rfl, hxf.out, hn255, hFB.out, HOK.out, HEQ.out⟩⟩

end Go.Proofs.Ytnkgbigjpihfeaa.Kd
