/- The bank: what asking, and the sums, do to it; as entries of a list. -/
import Derived.Test.YtmdkclgmibjlfaaProg
import Derived.Test.YtmdkclgmibjlfaaCh
import Derived.Test.YtmdkclgmibjlfaaOpen
import Derived.WalkKit
import Derived.ProofKit
import Derived.Lib.Hide
import Derived.Deep.QuietTactic
import Derived.BigQuiet
import Derived.Laws.Rows
import Derived.Deep.RegionWith
import Derived.Deep.CutRange
import Derived.Deep.CutBlock
set_option linter.unusedVariables false
set_option linter.unusedSimpArgs false
namespace Go.Proofs.Ytmdkclgmibjlfaa.Ba
open Go.RowKit Go.Maps Go.Proofs.Ytmdkclgmibjlfaa.Mx Go.Proofs.Ytmdkclgmibjlfaa.Lib

def mkB (x : Int × Int × Bool) : Value := .agg #[.int .i64 x.1, .int .i64 x.2.1, .bool x.2.2]
def encB (x : Int × Int × Bool) : DataW Unit := .agg [.lit (.int .i64 x.1), .lit (.int .i64 x.2.1), .lit (.bool x.2.2)]
theorem mkB_inj (x y : Int × Int × Bool) (h : mkB x = mkB y) : x = y := by
  obtain ⟨a, b, c⟩ := x
  obtain ⟨a', b', c'⟩ := y
  simpa [mkB] using h
theorem encB_inj (x y : Int × Int × Bool) (h : encB x = encB y) : x = y := by
  obtain ⟨a, b, c⟩ := x
  obtain ⟨a', b', c'⟩ := y
  simpa [encB] using h
theorem zeroB (w : World) : (zeroValue 93).run Try.prog w = .ok (.agg #[.int .i64 0, .int .i64 0, .bool false]) w := by kernel_rfl

abbrev Deeds := List (Int × Int × Int × Bool)

/-- Block B is a bank, whose map is block M: these were asked. -/
structure BankAt (w : World) (B M : Nat) (lim all : Int) (es : Deeds) : Prop where
  box : w.heap[B]? = some (.cells #[.int .i64 lim, .map (some M), .int .i64 all] 91 (0, 0))
  map : w.ownsMap Try.prog 3 (rdR mkB encB) M es.length (ent encB es)
  once : Once es

theorem BankAt.lt {w : World} {B M : Nat} {lim all : Int} {es : Deeds} (h : BankAt w B M lim all es) : B < w.heap.size := (Array.getElem?_eq_some_iff.1 h.box).1
theorem BankAt.keep {w w' : World} {B M : Nat} {lim all : Int} {es : Deeds} (h : BankAt w B M lim all es) (hb : Below w.heap.size w w') : BankAt w' B M lim all es :=
  ⟨(hb.block B h.lt).trans h.box, owns_of_block h.map (hb.block M h.map.lt), h.once⟩

theorem ask_nil (k r s : Int) (w : World) : Calls Try.prog 34 #[.pointer none, .int .i64 k, .int .i64 r, .int .i64 s] w fun e w' => e = .returned (.bool false) ∧ w' = w := by
  go_enter Try.func34, Try.ntmps34
  go_wp2_with fail
  go_ret
  exact ⟨rfl, rfl⟩
theorem exec_nil (r : Int) (w : World) : Calls Try.prog 37 #[.pointer none, .int .i64 r] w fun e w' => e = .returned (.int .i64 0) ∧ w' = w := by
  go_enter Try.func37, Try.ntmps37
  go_wp2_with fail
  go_ret
  exact ⟨rfl, rfl⟩
theorem all_nil (w : World) : Calls Try.prog 35 #[.pointer none] w fun e w' => e = .returned (.int .i64 0) ∧ w' = w := by
  go_enter Try.func35, Try.ntmps35
  go_wp2_with fail
  go_ret
  exact ⟨rfl, rfl⟩
theorem keys_nil (w : World) : Calls Try.prog 36 #[.pointer none] w fun e w' => e = .returned (.int .i64 0) ∧ w' = w := by
  go_enter Try.func36, Try.ntmps36
  go_wp2_with fail
  go_ret
  exact ⟨rfl, rfl⟩

theorem new_any (lim : Int) (w : World) : Calls Try.prog 33 #[.int .i64 lim] w fun e w' => e = .returned (.pointer (some ⟨w.heap.size + 1, 0, none⟩)) ∧ BankAt w' (w.heap.size + 1) w.heap.size lim 0 [] ∧ Below w.heap.size w w' ∧ w'.heap.size = w.heap.size + 2 := by
  have hmm := @run_makeMap Try.prog
  go_enter Try.func33, Try.ntmps33
  go_wp2_with fail
  go_ret
  refine ⟨by simp, ⟨?_, ?_, List.Pairwise.nil⟩, ?_, by simp⟩
  · have := heap_alloc_new (w.alloc (.map #[] 0)) (.cells #[.int .i64 lim, .map (some w.heap.size), .int .i64 0] 91)
    simpa using this
  · exact (World.ownsMap_made w Try.prog 3 (rdR mkB encB)).alloc _
  · exact ((Below.refl _ _).alloc (Nat.le_refl _) _).alloc (by simp) _

theorem all_any {w : World} {B M : Nat} {lim all : Int} {es : Deeds} (h : BankAt w B M lim all es) : Calls Try.prog 35 #[.pointer (some ⟨B, 0, none⟩)] w fun e w' => e = .returned (.int .i64 all) ∧ w' = w := by
  have c2 : w.cell? ⟨B, 2, none⟩ = some (.int .i64 all) := by simp [World.cell?, h.box]
  go_enter Try.func35, Try.ntmps35
  go_wp2_with fail
  go_ret
  exact ⟨rfl, rfl⟩

theorem keys_any {w : World} {B M : Nat} {lim all : Int} {es : Deeds} (h : BankAt w B M lim all es) : Calls Try.prog 36 #[.pointer (some ⟨B, 0, none⟩)] w fun e w' => e = .returned (.int .i64 es.length) ∧ w' = w := by
  have c1 : w.cell? ⟨B, 1, none⟩ = some (.map (some M)) := by simp [World.cell?, h.box]
  have hown := h.map
  have hsz := size_ent encB es h.once
  go_enter Try.func36, Try.ntmps36
  go_wp2_with (first
    | (at_len; refine wpList_len_own _ rfl _ 89 rfl 3 93 Try.underlying89 _ M es.length (ent encB es) rfl hown ?_; rw [hsz])
    | go_in)
  go_ret
  exact ⟨rfl, rfl⟩

theorem ask_old {w : World} {B M : Nat} {lim all : Int} {es : Deeds} (h : BankAt w B M lim all es) {k : Int} (x : Int × Int × Bool) (hm : (k, x) ∈ es) (hwk : (Lit.int .i64 k).wf = true) (r s : Int) :
    Calls Try.prog 34 #[.pointer (some ⟨B, 0, none⟩), .int .i64 k, .int .i64 r, .int .i64 s] w fun e w' => e = .returned (.bool x.2.2) ∧ Below w.heap.size w w' := by
  have c1 : w.cell? ⟨B, 1, none⟩ = some (.map (some M)) := by simp [World.cell?, h.box]
  have hown := h.map
  have hhas : has (ent encB es) (.int .i64 k) = true := by rw [has_ent]; exact List.any_eq_true.2 ⟨_, hm, by simp⟩
  have hat := atKey_ent encB (encB (0, 0, false)) es h.once hm
  have hkey := keyOf_int_mk Try.underlying3 hwk
  go_enter Try.func34, Try.ntmps34
  go_wp2_with (first
    | (at_lookup; refine wpList_lookup_own_ok _ rfl _ _ 89 rfl 3 93 law3 Try.underlying89 (rdR mkB encB) (zeroB _) (encB (0, 0, false)) [] (rdR_mk mkB encB mkB_inj (0, 0, false)) M _ _ rfl hown _ _ rfl hkey ?_; intro v ps hv; obtain ⟨y, rfl, hy⟩ := rdR_inv mkB encB hv; rw [hat] at hy; obtain rfl := encB_inj _ _ hy; rw [hhas]; obtain ⟨x0, x1, x2⟩ := x; simp only [mkB])
    | go_in)
  go_ret
  refine ⟨rfl, ?_⟩
  exact (Below.refl _ _).alloc (Nat.le_refl _) _

/-- May so much be paid? -/
def mayB (lim all s : Int) : Bool := decide (0 ≤ s) && decide (s ≤ lim) && decide (s ≤ 1125899906842624 - all)

theorem ask_end {w W w1 : World} {B M : Nat} {lim all all' : Int} {es : Deeds} {k r s : Int} {X : Bool} (h : BankAt w B M lim all es) (hm : keyIn es k = false) (hMB : M ≠ B) (hC : Chg B M w W)
    (hbx : W.heap[B]? = some (.cells #[.int .i64 lim, .map (some M), .int .i64 all'] 91 (0, 0)))
    (ho : w1.ownsMap Try.prog 3 (rdR mkB encB) M (es.length + 1) ((ent encB es).put (.int .i64 k) (encB (r, s, X)))) (ht : W.mapTurned w1 M) :
    Chg B M w w1 ∧ BankAt w1 B M lim all' (es ++ [(k, r, s, X)]) := by
  have hg := ht.grown
  have hBW : B < W.heap.size := (Array.getElem?_eq_some_iff.1 hbx).1
  refine ⟨hC.trans ⟨hg.os, hg.tape, hg.output, hg.size, fun i hi h1 h2 => hg.block i hi (by simpa using h2)⟩, ⟨?_, ?_, h.once.snoc hm _⟩⟩
  · exact (hg.block B hBW (by simpa using fun e => hMB e.symm)).trans hbx
  · rw [ent_snoc]
    simpa using ho

set_option maxRecDepth 100000 in
theorem ask_new {w : World} {B M : Nat} {lim all all' : Int} {es : Deeds} (h : BankAt w B M lim all es) {k : Int} (hm : keyIn es k = false) (hwk : (Lit.int .i64 k).wf = true) (r s : Int) (ha : 0 ≤ all ∧ all ≤ 1125899906842624) (hn : es.length < maxLen)
    {Y : Bool} (hY : Hid (mayB lim all s = Y)) (hall : Hid (all' = if Y then all + s else all)) :
    Calls Try.prog 34 #[.pointer (some ⟨B, 0, none⟩), .int .i64 k, .int .i64 r, .int .i64 s] w fun e w' => e = .returned (.bool Y) ∧ Chg B M w w' ∧ BankAt w' B M lim all' (es ++ [(k, r, s, Y)]) := by
  have c0 : w.cell? ⟨B, 0, none⟩ = some (.int .i64 lim) := by simp [World.cell?, h.box]
  have c1 : w.cell? ⟨B, 1, none⟩ = some (.map (some M)) := by simp [World.cell?, h.box]
  have c2 : w.cell? ⟨B, 2, none⟩ = some (.int .i64 all) := by simp [World.cell?, h.box]
  have f2 : w.frozen? ⟨B, 2, none⟩ = false := by simp [World.frozen?, h.box]
  have hlt := h.lt
  have hltM := h.map.lt
  have hown := h.map
  have hMB : M ≠ B := by
    intro e
    obtain ⟨es', clock, hb, _⟩ := hown
    rw [e, h.box] at hb
    cases hb
  have hhas : has (ent encB es) (.int .i64 k) = false := by rw [has_ent]; exact hm
  have hat := atKey_of_not_has hhas (encB (0, 0, false))
  have hkey := keyOf_int_mk Try.underlying3 hwk
  have hw1 : wrap64 (1125899906842624 - all) = 1125899906842624 - all := by unfold wrap64; omega
  rcases hd : decide (s ≤ 1125899906842624 - all) with _ | _ <;> simp only [decide_eq_false_iff_not, decide_eq_true_eq] at hd
  all_goals
    have h := Lib.hid h
    go_enter Try.func34, Try.ntmps34
    go_wp2_with (first
      | (at_lookup; refine wpList_lookup_own_ok _ rfl _ _ 89 rfl 3 93 law3 Try.underlying89 (rdR mkB encB) (zeroB _) (encB (0, 0, false)) [] (rdR_mk mkB encB mkB_inj (0, 0, false)) M _ _ rfl hown _ _ rfl hkey ?_; intro v ps hv; obtain ⟨y, rfl, hy⟩ := rdR_inv mkB encB hv; rw [hat] at hy; obtain rfl := encB_inj _ _ hy; rw [hhas]; simp only [mkB])
      | (at_mapUpdate; refine wpList_mapUpdate_in _ rfl _ _ _ 89 rfl 3 93 law3 Try.underlying89 (rdR mkB encB) M es.length (ent encB es) rfl (by first | exact owns_of_block hown (heap_alloc_old _ _ hltM) | exact owns_of_block hown ((heap_alloc_old _ _ (by simpa using hltM)).trans (heap_setCell_other w ⟨B, 2, none⟩ M _ hMB))) hn _ _ _ rfl rfl hkey _ [] (rdR_mk mkB encB mkB_inj (r, s, _)) ?_; intro w1 hown1 hturn1)
      | go_in)
  all_goals
    have hY := hY.out
    have hall := hall.out
    first
      | (have hX : Y = true := by
           rw [← hY]
           simp only [mayB, Bool.and_eq_true, decide_eq_true_eq]
           omega)
      | (have hX : Y = false := by
           rw [← hY]
           cases hq : mayB lim all s
           · rfl
           · simp only [mayB, Bool.and_eq_true, decide_eq_true_eq] at hq
             omega)
    subst hX
    simp only [if_true, if_false, Bool.false_eq_true] at hall
    subst hall
    go_ret
    first
      | exact ⟨by simp, ask_end h.out hm hMB (chg_alloc B M w _) ((heap_alloc_old _ _ hlt).trans h.out.box) hown1 hturn1⟩
      | exact ⟨by simp, ask_end h.out hm hMB ((chg_set B M w 2 _).trans (chg_alloc B M _ _)) ((heap_alloc_old _ _ (by simpa using hlt)).trans (heap_setCell_same w B 2 _ _ _ h.out.box)) hown1 hturn1⟩

/-- What an entry puts to a return's sum. -/
def fB (r : Int) (p : Int × Int × Int × Bool) : Int := if p.2.2.2 && p.2.1 == r then p.2.2.1 else 0

theorem next_B {w : World} {ops : Array Oper} {rest : List Oper} {o : Oper} {a : Act} {Q : Exit → Act → World → Prop}
    (hg : o.guard = none) (it : Operand) (hop : o.op = Op.next it false) (b r n : Nat) {es : Deeds} (ho : Once es) (left : Lit → Bool) (cnt : Nat)
    (hit : a.eval it = .pointer (some ⟨r, 0, none⟩)) (h : w.ranges Try.prog 3 (rdR mkB encB) b r n (ent encB es) left cnt)
    (hDone : Hid (∀ kl, left kl = false) → wpList Try.prog ops Q rest (a.put o.dst (.tuple #[.bool false])) w)
    (hMore : ∀ (x x0 x1 : Int) (x2 : Bool) (w' : World) (cnt' : Nat), Hid ((x, x0, x1, x2) ∈ es) → Hid (left (.int .i64 x) = true) → Hid (w'.ranges Try.prog 3 (rdR mkB encB) b r n (ent encB es) (fun z => left z && !z.sameKey (.int .i64 x)) cnt') → Hid (cnt' < cnt) →
      Hid (w.grownBy w' (some r)) → Hid (w'.heap.size = w.heap.size) → (Instr.entry (.pointer (some ⟨r, 0, none⟩))).run Try.prog w' = .ok (.tuple #[.int .i64 x, .agg #[.int .i64 x0, .int .i64 x1, .bool x2]]) w' → wpList Try.prog ops Q rest (a.put o.dst (.tuple #[.bool true, .int .i64 x, .agg #[.int .i64 x0, .int .i64 x1, .bool x2]])) w') :
    wpList Try.prog ops Q (o :: rest) a w :=
  wpList_next_ent mkB_inj encB_inj (fun x => by simp [encB]) w hg it hop 3 law3 Try.underlying3 b r n ho left cnt hit h hDone (fun x c w' cnt' h1 h2 h3 h4 h5 h6 h7 => hMore x c.1 c.2.1 c.2.2 w' cnt' h1 h2 h3 h4 h5 h6 h7)

set_option maxRecDepth 100000 in
theorem exec_any {w : World} {B M : Nat} {lim all : Int} {es : Deeds} (h : BankAt w B M lim all es) (r : Int) (hf : ∀ p ∈ es, 0 ≤ fB r p) (ht : total (fB r) es ≤ 1125899906842624) :
    Calls Try.prog 37 #[.pointer (some ⟨B, 0, none⟩), .int .i64 r] w fun e w' => e = .returned (.int .i64 (total (fB r) es)) ∧ Below w.heap.size w w' := by
  have c1 : w.cell? ⟨B, 1, none⟩ = some (.map (some M)) := by simp [World.cell?, h.box]
  have hown := h.map
  have honce := h.once
  have hst := gone_start encB (fB r) es
  have hB := gone_bounds (fB r) (left := fun _ => false) es hf
  have hbs : Hid (∀ left : Lit → Bool, 0 ≤ gone (fB r) left es ∧ gone (fB r) left es ≤ 1125899906842624) := Lib.hid fun left => by
    have := gone_bounds (fB r) left es hf
    omega
  have hMl := hown.lt
  have hstr : Hid (∀ (left : Lit → Bool) (k : Int) (x : Int × Int × Bool), left (.int .i64 k) = true → (k, x) ∈ es → gone (fB r) (fun z => left z && !z.sameKey (.int .i64 k)) es = gone (fB r) left es + fB r (k, x)) := Lib.hid fun left k x hl hm => gone_strike (fB r) hl es honce hm
  have hend : Hid (∀ left : Lit → Bool, (∀ kl, left kl = false) → gone (fB r) left es = total (fB r) es) := Lib.hid fun left hl => gone_end (fB r) hl es
  clear hf ht hB
  generalize hg : gone (fB r) = G at *
  go_enter Try.func37, Try.ntmps37
  go_wp2_with (first
    | (at_range; refine wpList_range_own _ rfl _ 89 rfl 3 93 law3 Try.underlying89 _ M es.length _ rfl hown ?_; intro w0 hrg0 hg0 hs0)
    | go_in)
  go_frame
  go_loopw [5] (fun n wr => ∃ (left : Lit → Bool) (cnt : Nat), wr.ranges Try.prog 3 (rdR mkB encB) M w.heap.size es.length (ent encB es) left cnt ∧ n = .int .i64 (G left es) ∧ Below w.heap.size w wr ∧ w.heap.size < wr.heap.size)
    (fun _ wr => wr.rangeLeft M w.heap.size)
  case atStart => exact ⟨_, _, hrg0, by rw [hst], (Below.refl _ _).grown hg0 (Nat.le_refl _) (by simp), by omega⟩
  case round =>
    obtain ⟨left, cnt, hrg, rfl, hbl, hsz⟩ := hrel
    go_wp2_with (first
      | (at_next; refine next_B rfl _ rfl M w.heap.size es.length honce left cnt rfl hrg (fun hl0 => ?_) (fun k x0 x1 x2 w1 cnt1 hmem hlk hrg1 hlt hg1 hs1 hen => ?_))
      | go_in)
    · go_ret
      exact ⟨by simp [hend.out left hl0.out], hbl⟩
    all_goals
      have hnew := hstr.out left k (x0, x1, x2) hlk.out hmem.out
      have hb0 := hbs.out left
      have hb1 := hbs.out (fun z => left z && !z.sameKey (.int .i64 k))
      have hs1' := hs1.out
      refine ⟨⟨_, cnt1, hrg1.out.alloc _, ?_, (hbl.grown hg1.out (by omega) (by intro j hj; cases hj; exact Nat.le_refl _)).alloc (by omega) _, by simp; omega⟩, by rw [(hrg1.out.alloc _).left_eq, hrg.left_eq]; exact hlt.out⟩
      rw [hnew]
      congr 1
    · have hw : wrap64 (G left es + x1) = G left es + x1 := by
        simp_all [fB]
        unfold wrap64
        omega
      rw [hw]
      simp_all [fB]
    · simp_all [fB]
    · simp_all [fB]

end Go.Proofs.Ytmdkclgmibjlfaa.Ba
