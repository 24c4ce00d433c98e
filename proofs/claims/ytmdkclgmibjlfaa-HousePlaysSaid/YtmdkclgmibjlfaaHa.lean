/- The house: what asking does to it; as entries of a list; a nil house. -/
import Derived.Test.YtmdkclgmibjlfaaCa
set_option linter.unusedVariables false
set_option linter.unusedSimpArgs false
namespace Go.Proofs.Ytmdkclgmibjlfaa.Ba
open Go.RowKit Go.Maps Go.Proofs.Ytmdkclgmibjlfaa.Mx Go.Proofs.Ytmdkclgmibjlfaa.Lib

def mkH (x : Int × Bool) : Value := .agg #[.int .i64 x.1, .bool x.2]
def encH (x : Int × Bool) : DataW Unit := .agg [.lit (.int .i64 x.1), .lit (.bool x.2)]
theorem mkH_inj (x y : Int × Bool) (h : mkH x = mkH y) : x = y := by
  obtain ⟨a, b⟩ := x
  obtain ⟨a', b'⟩ := y
  simpa [mkH] using h
theorem encH_inj (x y : Int × Bool) (h : encH x = encH y) : x = y := by
  obtain ⟨a, b⟩ := x
  obtain ⟨a', b'⟩ := y
  simpa [encH] using h
theorem zeroH (w : World) : (zeroValue 99).run Try.prog w = .ok (.agg #[.int .i64 0, .bool false]) w := by kernel_rfl

abbrev Sents := List (Int × Int × Bool)

/-- Block B is a house, whose map is block M, and which misses these. -/
structure HouAt (w : World) (B M : Nat) (a : Option Addr) (n c : Nat) (F : Nat → Int) (es : Sents) : Prop where
  box : w.heap[B]? = some (.cells #[.slice a n c, .map (some M)] 97 (0, 0))
  ints : IntsAt w .i64 a n F
  away : ∀ p, a = some p → p.block ≠ B ∧ p.block ≠ M
  map : w.ownsMap Try.prog 3 (rdR mkH encH) M es.length (ent encH es)
  once : Once es

theorem HouAt.lt {w : World} {B M : Nat} {a : Option Addr} {n c : Nat} {F : Nat → Int} {es : Sents} (h : HouAt w B M a n c F es) : B < w.heap.size := (Array.getElem?_eq_some_iff.1 h.box).1
theorem HouAt.keep {w w' : World} {B M : Nat} {a : Option Addr} {n c : Nat} {F : Nat → Int} {es : Sents} (h : HouAt w B M a n c F es) (hb : Below w.heap.size w w') : HouAt w' B M a n c F es :=
  ⟨(hb.block B h.lt).trans h.box, h.ints.below hb, h.away, owns_of_block h.map (hb.block M h.map.lt), h.once⟩

theorem hask_nil (k r : Int) (w : World) : Calls Try.prog 40 #[.pointer none, .int .i64 k, .int .i64 r] w fun e w' => e = .returned (.bool false) ∧ w' = w := by
  go_enter Try.func40, Try.ntmps40
  go_wp2_with fail
  go_ret
  exact ⟨rfl, rfl⟩
theorem hsent_nil (r : Int) (w : World) : Calls Try.prog 43 #[.pointer none, .int .i64 r] w fun e w' => e = .returned (.int .i64 0) ∧ w' = w := by
  go_enter Try.func43, Try.ntmps43
  go_wp2_with fail
  go_ret
  exact ⟨rfl, rfl⟩
theorem hkeys_nil (w : World) : Calls Try.prog 42 #[.pointer none] w fun e w' => e = .returned (.int .i64 0) ∧ w' = w := by
  go_enter Try.func42, Try.ntmps42
  go_wp2_with fail
  go_ret
  exact ⟨rfl, rfl⟩

theorem hnew_any {a : Option Addr} {n c : Nat} {F : Nat → Int} (w : World) (h : IntsAt w .i64 a n F) (ha : a = none → n = 0) (hn : n ≤ 1000) :
    Calls Try.prog 39 #[.slice a n c] w fun e w' => ∃ B M a' c', e = .returned (.pointer (some ⟨B, 0, none⟩)) ∧ HouAt w' B M a' n c' F [] ∧ w.heap.size ≤ B ∧ w.heap.size ≤ M ∧ Below w.heap.size w w' := by
  have hmm := @run_makeMap Try.prog
  have H := Lib.hid (clone_any (c := c) w h ha (by omega))
  clear h ha
  go_enter Try.func39, Try.ntmps39
  go_wp2_with fail
  refine H.out.mono ?_
  rintro e w1 ⟨a', c', rfl, hi, hn', hp, hb⟩
  have hi := Lib.hid hi
  have hb := Lib.hid hb
  have hp := Lib.hid hp
  go_wp2_with fail
  go_ret
  have hs := hb.out.size
  refine ⟨w1.heap.size + 1, w1.heap.size, a', c', by simp, ⟨?_, ?_, ?_, ?_, List.Pairwise.nil⟩, by omega, by omega, ?_⟩
  · have := heap_alloc_new (w1.alloc (.map #[] 0)) (.cells #[.slice a' n c', .map (some w1.heap.size)] 97)
    simpa using this
  · exact hi.out.below (((Below.refl _ _).alloc (Nat.le_refl _) _).alloc (by simp) _)
  · intro p e
    subst e
    have hlt := (hp.out p rfl).2
    exact ⟨by omega, by omega⟩
  · exact (World.ownsMap_made w1 Try.prog 3 (rdR mkH encH)).alloc _
  · exact (hb.out.alloc hs _).alloc (by simp; omega) _

theorem hkeys_any {w : World} {B M : Nat} {a : Option Addr} {n c : Nat} {F : Nat → Int} {es : Sents} (h : HouAt w B M a n c F es) :
    Calls Try.prog 42 #[.pointer (some ⟨B, 0, none⟩)] w fun e w' => e = .returned (.int .i64 es.length) ∧ w' = w := by
  have c1 : w.cell? ⟨B, 1, none⟩ = some (.map (some M)) := by simp [World.cell?, h.box]
  have hown := h.map
  have hsz := size_ent encH es h.once
  go_enter Try.func42, Try.ntmps42
  go_wp2_with (first
    | (at_len; refine wpList_len_own _ rfl _ 95 rfl 3 99 Try.underlying95 _ M es.length (ent encH es) rfl hown ?_; rw [hsz])
    | go_in)
  go_ret
  exact ⟨rfl, rfl⟩

theorem hask_old {w : World} {B M : Nat} {a : Option Addr} {n c : Nat} {F : Nat → Int} {es : Sents} (h : HouAt w B M a n c F es) {k x0 : Int} {x1 : Bool} (hm : (k, x0, x1) ∈ es) (hwk : (Lit.int .i64 k).wf = true) (r : Int) :
    Calls Try.prog 40 #[.pointer (some ⟨B, 0, none⟩), .int .i64 k, .int .i64 r] w fun e w' => e = .returned (.bool x1) ∧ Below w.heap.size w w' := by
  have c1 : w.cell? ⟨B, 1, none⟩ = some (.map (some M)) := by simp [World.cell?, h.box]
  have hown := h.map
  have hhas : has (ent encH es) (.int .i64 k) = true := by rw [has_ent]; exact List.any_eq_true.2 ⟨_, hm, by simp⟩
  have hat := atKey_ent encH (encH (0, false)) es h.once hm
  have hkey := keyOf_int_mk Try.underlying3 hwk
  go_enter Try.func40, Try.ntmps40
  go_wp2_with (first
    | (at_lookup; refine wpList_lookup_own_ok _ rfl _ _ 95 rfl 3 99 law3 Try.underlying95 (rdR mkH encH) (zeroH _) (encH (0, false)) [] (rdR_mk mkH encH mkH_inj (0, false)) M _ _ rfl hown _ _ rfl hkey ?_; intro v ps hv; obtain ⟨y, rfl, hy⟩ := rdR_inv mkH encH hv; rw [hat] at hy; obtain rfl := encH_inj _ _ hy; clear hv; rw [hhas]; simp only [mkH])
    | go_in)
  go_ret
  refine ⟨rfl, ?_⟩
  exact (Below.refl _ _).alloc (Nat.le_refl _) _

theorem hask_new {w : World} {B M : Nat} {a : Option Addr} {n c : Nat} {F : Nat → Int} {es : Sents} (h : HouAt w B M a n c F es) {k : Int} (hm : keyIn es k = false) (hwk : (Lit.int .i64 k).wf = true) (r : Int) (hn : es.length < maxLen) {Y : Bool} (hY : Hid (memb n F r = !Y)) :
    Calls Try.prog 40 #[.pointer (some ⟨B, 0, none⟩), .int .i64 k, .int .i64 r] w fun e w' => e = .returned (.bool Y) ∧ Chg B M w w' ∧ HouAt w' B M a n c F (es ++ [(k, r, Y)]) := by
  have c0 : w.cell? ⟨B, 0, none⟩ = some (.slice a n c) := by simp [World.cell?, h.box]
  have c1 : w.cell? ⟨B, 1, none⟩ = some (.map (some M)) := by simp [World.cell?, h.box]
  have hown := h.map
  have hlt := h.lt
  have hltM := hown.lt
  have hMB : M ≠ B := by
    intro e
    obtain ⟨es', clock, hb, _⟩ := hown
    rw [e, h.box] at hb
    cases hb
  have hhas : has (ent encH es) (.int .i64 k) = false := by rw [has_ent]; exact hm
  have hat := atKey_of_not_has hhas (encH (0, false))
  have hkey := keyOf_int_mk Try.underlying3 hwk
  have HC : Hid (∀ w', Below w.heap.size w w' → Calls Try.prog 44 #[.slice a n c, .int .i64 r] w' fun e w'' => e = .returned (.bool (memb n F r)) ∧ w'' = w') := Lib.hid fun w' hb => contains_any (c := c) (h.ints.below hb) r
  have h := Lib.hid h
  have hm := Lib.hid hm
  rw [hY.out] at HC
  clear hY
  go_enter Try.func40, Try.ntmps40
  go_upto_region 6 with (first
    | (at_lookup; refine wpList_lookup_own_ok _ rfl _ _ 95 rfl 3 99 law3 Try.underlying95 (rdR mkH encH) (zeroH _) (encH (0, false)) [] (rdR_mk mkH encH mkH_inj (0, false)) M _ _ rfl hown _ _ rfl hkey ?_; intro v ps hv; obtain ⟨y, rfl, hy⟩ := rdR_inv mkH encH hv; rw [hat] at hy; obtain rfl := encH_inj _ _ hy; clear hv; rw [hhas]; simp only [mkH])
    | (go_at_call 44; refine (HC.out _ ((Below.refl _ _).alloc (Nat.le_refl _) _)).mono ?_; rintro e w1 ⟨rfl, rfl⟩)
    | go_in)
  have hnb : (w.alloc (.cells #[.int .i64 r, .bool Y] 99)).heap[w.heap.size]? = some (.cells #[.int .i64 r, .bool Y] 99 (0, 0)) := heap_alloc_new _ _
  obtain ⟨w2, hrun, hown2, hg2⟩ := ((hown.alloc (.cells #[.int .i64 r, .bool Y] 99)).drew).update law3 Try.underlying95 hn hkey (rdR_mk mkH encH mkH_inj (r, Y))
  simp only [mkH] at hrun
  have hown2 := Lib.hid hown2
  have hC : Hid (Chg B M w w2) := Lib.hid ((chg_alloc B M w (.cells #[.int .i64 r, .bool Y] 99)).trans ⟨hg2.os, hg2.tape, hg2.output, hg2.size, fun i hi h1 h2 => hg2.block i hi (by simpa using h2)⟩)
  have hbx : Hid (w2.heap[B]? = some (.cells #[.slice a n c, .map (some M)] 97 (0, 0))) := Lib.hid ((hg2.block B (by show B < (w.alloc _).heap.size; simp; omega) (by simpa using fun e => hMB e.symm)).trans ((heap_alloc_old w _ hlt).trans h.out.box))
  have hnw : w2.cell? ⟨w.heap.size, 1, none⟩ = some (.bool Y) := by
    have e := (hg2.block w.heap.size (by show w.heap.size < (w.alloc _).heap.size; simp) (by simp; omega)).trans hnb
    simp [World.cell?, e]
  clear hg2 hnb
  go_region_with (fail)
  all_goals
    go_wp2_with fail
    go_ret
    have h := h.out
    refine ⟨rfl, hC.out, hbx.out, ints_chg h.ints h.away hC.out, h.away, ?_, h.once.snoc hm.out _⟩
    rw [ent_snoc]
    simpa using hown2.out

/-- Does an entry send a unit? -/
def fH (r : Int) (p : Int × Int × Bool) : Int := if p.2.2 && p.2.1 == r then 1 else 0

theorem next_H {w : World} {ops : Array Oper} {rest : List Oper} {o : Oper} {a : Act} {Q : Exit → Act → World → Prop}
    (hg : o.guard = none) (it : Operand) (hop : o.op = Op.next it false) (b r n : Nat) {es : Sents} (ho : Once es) (left : Lit → Bool) (cnt : Nat)
    (hit : a.eval it = .pointer (some ⟨r, 0, none⟩)) (h : w.ranges Try.prog 3 (rdR mkH encH) b r n (ent encH es) left cnt)
    (hDone : Hid (∀ kl, left kl = false) → wpList Try.prog ops Q rest (a.put o.dst (.tuple #[.bool false])) w)
    (hMore : ∀ (x x0 : Int) (x1 : Bool) (w' : World) (cnt' : Nat), Hid ((x, x0, x1) ∈ es) → Hid (left (.int .i64 x) = true) → Hid (w'.ranges Try.prog 3 (rdR mkH encH) b r n (ent encH es) (fun z => left z && !z.sameKey (.int .i64 x)) cnt') → Hid (cnt' < cnt) →
      Hid (w.grownBy w' (some r)) → Hid (w'.heap.size = w.heap.size) → (Instr.entry (.pointer (some ⟨r, 0, none⟩))).run Try.prog w' = .ok (.tuple #[.int .i64 x, .agg #[.int .i64 x0, .bool x1]]) w' → wpList Try.prog ops Q rest (a.put o.dst (.tuple #[.bool true, .int .i64 x, .agg #[.int .i64 x0, .bool x1]])) w') :
    wpList Try.prog ops Q (o :: rest) a w :=
  wpList_next_ent mkH_inj encH_inj (fun x => by simp [encH]) w hg it hop 3 law3 Try.underlying3 b r n ho left cnt hit h hDone (fun x c w' cnt' h1 h2 h3 h4 h5 h6 h7 => hMore x c.1 c.2 w' cnt' h1 h2 h3 h4 h5 h6 h7)

theorem total_leH (r : Int) : ∀ es : Sents, total (fH r) es ≤ es.length
  | [] => by simp [total]
  | p :: es => by
    have := total_leH r es
    unfold total at this ⊢
    simp only [List.map_cons, List.sum_cons, List.length_cons, fH]
    split <;> omega

set_option maxRecDepth 100000 in
theorem hsent_any {w : World} {B M : Nat} {a : Option Addr} {n c : Nat} {F : Nat → Int} {es : Sents} (h : HouAt w B M a n c F es) (r : Int) (hn : es.length ≤ 1000) :
    Calls Try.prog 43 #[.pointer (some ⟨B, 0, none⟩), .int .i64 r] w fun e w' => e = .returned (.int .i64 (total (fH r) es)) ∧ Below w.heap.size w w' := by
  have c1 : w.cell? ⟨B, 1, none⟩ = some (.map (some M)) := by simp [World.cell?, h.box]
  have hown := h.map
  have honce := h.once
  have hst := gone_start encH (fH r) es
  have hbs : Hid (∀ left : Lit → Bool, 0 ≤ gone (fH r) left es ∧ gone (fH r) left es ≤ 1000) := Lib.hid fun left => by
    have h1 := gone_bounds (fH r) left es (fun p _ => by unfold fH; split <;> omega)
    have h2 := total_leH r es
    omega
  have hMl := hown.lt
  have hstr : Hid (∀ (left : Lit → Bool) (k : Int) (x : Int × Bool), left (.int .i64 k) = true → (k, x) ∈ es → gone (fH r) (fun z => left z && !z.sameKey (.int .i64 k)) es = gone (fH r) left es + fH r (k, x)) := Lib.hid fun left k x hl hm => gone_strike (fH r) hl es honce hm
  have hend : Hid (∀ left : Lit → Bool, (∀ kl, left kl = false) → gone (fH r) left es = total (fH r) es) := Lib.hid fun left hl => gone_end (fH r) hl es
  clear hn
  generalize hg : gone (fH r) = G at *
  go_enter Try.func43, Try.ntmps43
  go_wp2_with (first
    | (at_range; refine wpList_range_own _ rfl _ 95 rfl 3 99 law3 Try.underlying95 _ M es.length _ rfl hown ?_; intro w0 hrg0 hg0 hs0)
    | go_in)
  go_frame
  go_loopw [5] (fun n wr => ∃ (left : Lit → Bool) (cnt : Nat), wr.ranges Try.prog 3 (rdR mkH encH) M w.heap.size es.length (ent encH es) left cnt ∧ n = .int .i64 (G left es) ∧ Below w.heap.size w wr)
    (fun _ wr => wr.rangeLeft M w.heap.size)
  case atStart => exact ⟨_, _, hrg0, by rw [hst], (Below.refl _ _).grown hg0 (Nat.le_refl _) (by simp)⟩
  case round =>
    obtain ⟨left, cnt, hrg, rfl, hbl⟩ := hrel
    have hsz := hbl.size
    go_wp2_with (first
      | (at_next; refine next_H rfl _ rfl M w.heap.size es.length honce left cnt rfl hrg (fun hl0 => ?_) (fun k x0 x1 w1 cnt1 hmem hlk hrg1 hlt hg1 hs1 hen => ?_))
      | go_in)
    · go_ret
      exact ⟨by simp [hend.out left hl0.out], hbl⟩
    all_goals
      have hnew := hstr.out left k (x0, x1) hlk.out hmem.out
      have hb0 := hbs.out left
      have hs1' := hs1.out
      have hbl1 : Below w.heap.size w w1 := hbl.grown hg1.out (by omega) (by intro j hj; cases hj; exact Nat.le_refl _)
      refine ⟨⟨_, cnt1, hrg1.out.alloc _, ?_, hbl1.alloc (by omega) _⟩, by rw [(hrg1.out.alloc _).left_eq, hrg.left_eq]; exact hlt.out⟩
      rw [hnew]
      congr 1
    · have hw : wrap64 (G left es + 1) = G left es + 1 := by unfold wrap64; omega
      simp_all [fH]
    · simp_all [fH]
    · simp_all [fH]

end Go.Proofs.Ytmdkclgmibjlfaa.Ba
