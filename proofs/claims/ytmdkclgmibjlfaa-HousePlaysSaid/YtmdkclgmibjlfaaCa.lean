/- The carrier: what asking does to it; as entries of a list; a nil carrier. -/
import Derived.Test.YtmdkclgmibjlfaaCh
import Derived.Test.YtmdkclgmibjlfaaIn
import Derived.Deep.RegionWith
import Derived.Deep.CutRange
import Derived.Deep.CutBlock
import Derived.LoopTactic
import Derived.LoopN
set_option linter.unusedVariables false
set_option linter.unusedSimpArgs false
namespace Go.Proofs.Ytmdkclgmibjlfaa.Ba
open Go.RowKit Go.Maps Go.Proofs.Ytmdkclgmibjlfaa.Mx Go.Proofs.Ytmdkclgmibjlfaa.Lib

def mkC (x : Bool) : Value := .bool x
def encC (x : Bool) : DataW Unit := .lit (.bool x)
theorem mkC_inj (x y : Bool) (h : mkC x = mkC y) : x = y := by simpa [mkC] using h
theorem encC_inj (x y : Bool) (h : encC x = encC y) : x = y := by simpa [encC] using h
theorem zeroC (w : World) : (zeroValue 4).run Try.prog w = .ok (.bool false) w := by kernel_rfl

abbrev Asked := List (Int × Bool)

/-- Block B is a carrier, whose map is block M, and which refuses these. -/
structure CarAt (w : World) (B M : Nat) (a : Option Addr) (n c : Nat) (F : Nat → Int) (es : Asked) : Prop where
  box : w.heap[B]? = some (.cells #[.slice a n c, .map (some M)] 88 (0, 0))
  ints : IntsAt w .i64 a n F
  away : ∀ p, a = some p → p.block ≠ B ∧ p.block ≠ M
  map : w.ownsMap Try.prog 3 (rdR mkC encC) M es.length (ent encC es)
  once : Once es

theorem CarAt.lt {w : World} {B M : Nat} {a : Option Addr} {n c : Nat} {F : Nat → Int} {es : Asked} (h : CarAt w B M a n c F es) : B < w.heap.size := (Array.getElem?_eq_some_iff.1 h.box).1
theorem CarAt.keep {w w' : World} {B M : Nat} {a : Option Addr} {n c : Nat} {F : Nat → Int} {es : Asked} (h : CarAt w B M a n c F es) (hb : Below w.heap.size w w') : CarAt w' B M a n c F es :=
  ⟨(hb.block B h.lt).trans h.box, h.ints.below hb, h.away, owns_of_block h.map (hb.block M h.map.lt), h.once⟩

theorem ints_chg {w w' : World} {B M : Nat} {a : Option Addr} {n : Nat} {F : Nat → Int} (h : IntsAt w .i64 a n F) (ha : ∀ p, a = some p → p.block ≠ B ∧ p.block ≠ M) (hc : Chg B M w w') : IntsAt w' .i64 a n F := by
  refine ⟨h.1, fun hp => ?_⟩
  obtain ⟨b, o, rfl, hlt, hcell⟩ := h.2 hp
  obtain ⟨h1, h2⟩ := ha _ rfl
  exact ⟨b, o, rfl, Nat.lt_of_lt_of_le hlt hc.size, fun j hj => (World.cell?_of_block (a := ⟨b, o + j, none⟩) (hc.block b hlt h1 h2)).trans (hcell j hj)⟩

theorem casked_nil (k : Int) (w : World) : Calls Try.prog 29 #[.pointer none, .int .i64 k] w fun e w' => e = .returned (.tuple #[.bool false, .bool false]) ∧ w' = w := by
  go_enter Try.func29, Try.ntmps29
  go_wp2_with fail
  go_ret2
  exact ⟨rfl, rfl⟩
theorem cask_nil (k r : Int) (w : World) : Calls Try.prog 30 #[.pointer none, .int .i64 k, .int .i64 r] w fun e w' => e = .returned (.bool false) ∧ w' = w := by
  go_enter Try.func30, Try.ntmps30
  go_wp2_with fail
  go_ret
  exact ⟨rfl, rfl⟩
theorem clabels_nil (w : World) : Calls Try.prog 31 #[.pointer none] w fun e w' => e = .returned (.int .i64 0) ∧ w' = w := by
  go_enter Try.func31, Try.ntmps31
  go_wp2_with fail
  go_ret
  exact ⟨rfl, rfl⟩

theorem cnew_any {a : Option Addr} {n c : Nat} {F : Nat → Int} (w : World) (h : IntsAt w .i64 a n F) (ha : a = none → n = 0) (hn : n ≤ 1000) :
    Calls Try.prog 28 #[.slice a n c] w fun e w' => ∃ B M a' c', e = .returned (.pointer (some ⟨B, 0, none⟩)) ∧ CarAt w' B M a' n c' F [] ∧ w.heap.size ≤ B ∧ w.heap.size ≤ M ∧ Below w.heap.size w w' := by
  have hmm := @run_makeMap Try.prog
  have H := Lib.hid (clone_any (c := c) w h ha (by omega))
  clear h ha
  go_enter Try.func28, Try.ntmps28
  go_wp2_with fail
  refine H.out.mono ?_
  rintro e w1 ⟨a', c', rfl, hi, hn', hp, hb⟩
  have hi := Lib.hid hi
  have hb := Lib.hid hb
  have hp := Lib.hid hp
  go_wp2_with fail
  go_ret
  have hs := hb.out.size
  refine ⟨w1.heap.size + 1, w1.heap.size, a', c', by simp, ⟨?_, ?_, ?_, ?_, List.Pairwise.nil⟩, by omega, by omega, ?_⟩
  · have := heap_alloc_new (w1.alloc (.map #[] 0)) (.cells #[.slice a' n c', .map (some w1.heap.size)] 88)
    simpa using this
  · exact hi.out.below (((Below.refl _ _).alloc (Nat.le_refl _) _).alloc (by simp) _)
  · intro p e
    subst e
    have hlt := (hp.out p rfl).2
    exact ⟨by omega, by omega⟩
  · exact (World.ownsMap_made w1 Try.prog 3 (rdR mkC encC)).alloc _
  · exact (hb.out.alloc hs _).alloc (by simp; omega) _

theorem casked_any {w : World} {B M : Nat} {a : Option Addr} {n c : Nat} {F : Nat → Int} {es : Asked} (h : CarAt w B M a n c F es) {k : Int} (hwk : (Lit.int .i64 k).wf = true) {Y : Bool} (hY : Hid ((ent encC es).atKey (.int .i64 k) (encC false) = encC Y)) :
    Calls Try.prog 29 #[.pointer (some ⟨B, 0, none⟩), .int .i64 k] w fun e w' => e = .returned (.tuple #[.bool Y, .bool (keyIn es k)]) ∧ w' = w := by
  have c1 : w.cell? ⟨B, 1, none⟩ = some (.map (some M)) := by simp [World.cell?, h.box]
  have hown := h.map
  have hhas := has_ent encC es k
  have hkey := keyOf_int_mk Try.underlying3 hwk
  have hat := hY.out
  go_enter Try.func29, Try.ntmps29
  go_wp2_with (first
    | (at_lookup; refine wpList_lookup_own_ok _ rfl _ _ 86 rfl 3 4 law3 Try.underlying86 (rdR mkC encC) (zeroC _) (encC false) [] (rdR_mk mkC encC mkC_inj false) M _ _ rfl hown _ _ rfl hkey ?_; intro v ps hv; obtain ⟨y, rfl, hy⟩ := rdR_inv mkC encC hv; rw [hat] at hy; obtain rfl := encC_inj _ _ hy; clear hv; rw [hhas]; simp only [mkC])
    | go_in)
  go_ret2
  exact ⟨rfl, rfl⟩

theorem cask_old {w : World} {B M : Nat} {a : Option Addr} {n c : Nat} {F : Nat → Int} {es : Asked} (h : CarAt w B M a n c F es) {k : Int} {x : Bool} (hm : (k, x) ∈ es) (hwk : (Lit.int .i64 k).wf = true) (r : Int) :
    Calls Try.prog 30 #[.pointer (some ⟨B, 0, none⟩), .int .i64 k, .int .i64 r] w fun e w' => e = .returned (.bool x) ∧ w' = w := by
  have c1 : w.cell? ⟨B, 1, none⟩ = some (.map (some M)) := by simp [World.cell?, h.box]
  have hown := h.map
  have hhas : has (ent encC es) (.int .i64 k) = true := by rw [has_ent]; exact List.any_eq_true.2 ⟨_, hm, by simp⟩
  have hat := atKey_ent encC (encC false) es h.once hm
  have hkey := keyOf_int_mk Try.underlying3 hwk
  go_enter Try.func30, Try.ntmps30
  go_wp2_with (first
    | (at_lookup; refine wpList_lookup_own_ok _ rfl _ _ 86 rfl 3 4 law3 Try.underlying86 (rdR mkC encC) (zeroC _) (encC false) [] (rdR_mk mkC encC mkC_inj false) M _ _ rfl hown _ _ rfl hkey ?_; intro v ps hv; obtain ⟨y, rfl, hy⟩ := rdR_inv mkC encC hv; rw [hat] at hy; obtain rfl := encC_inj _ _ hy; clear hv; rw [hhas]; simp only [mkC])
    | go_in)
  go_ret
  exact ⟨rfl, rfl⟩

theorem cask_new {w : World} {B M : Nat} {a : Option Addr} {n c : Nat} {F : Nat → Int} {es : Asked} (h : CarAt w B M a n c F es) {k : Int} (hm : keyIn es k = false) (hwk : (Lit.int .i64 k).wf = true) (r : Int) (hn : es.length < maxLen) {Y : Bool} (hY : Hid (memb n F r = !Y)) :
    Calls Try.prog 30 #[.pointer (some ⟨B, 0, none⟩), .int .i64 k, .int .i64 r] w fun e w' => e = .returned (.bool Y) ∧ Chg B M w w' ∧ CarAt w' B M a n c F (es ++ [(k, Y)]) := by
  have c0 : w.cell? ⟨B, 0, none⟩ = some (.slice a n c) := by simp [World.cell?, h.box]
  have c1 : w.cell? ⟨B, 1, none⟩ = some (.map (some M)) := by simp [World.cell?, h.box]
  have hown := h.map
  have hMB : M ≠ B := by
    intro e
    obtain ⟨es', clock, hb, _⟩ := hown
    rw [e, h.box] at hb
    cases hb
  have hhas : has (ent encC es) (.int .i64 k) = false := by rw [has_ent]; exact hm
  have hat := atKey_of_not_has hhas (encC false)
  have hkey := keyOf_int_mk Try.underlying3 hwk
  have HC := Lib.hid (contains_any (c := c) h.ints r)
  have h := Lib.hid h
  have hm := Lib.hid hm
  rw [hY.out] at HC
  clear hY
  go_enter Try.func30, Try.ntmps30
  go_wp2_with (first
    | (at_lookup; refine wpList_lookup_own_ok _ rfl _ _ 86 rfl 3 4 law3 Try.underlying86 (rdR mkC encC) (zeroC _) (encC false) [] (rdR_mk mkC encC mkC_inj false) M _ _ rfl hown _ _ rfl hkey ?_; intro v ps hv; obtain ⟨y, rfl, hy⟩ := rdR_inv mkC encC hv; rw [hat] at hy; obtain rfl := encC_inj _ _ hy; clear hv; rw [hhas]; simp only [mkC])
    | (go_at_call 44; refine HC.out.mono ?_; rintro e w1 ⟨rfl, rfl⟩)
    | (at_mapUpdate; refine wpList_mapUpdate_in _ rfl _ _ _ 86 rfl 3 4 law3 Try.underlying86 (rdR mkC encC) M es.length (ent encC es) rfl hown hn _ _ _ rfl rfl hkey _ [] (rdR_mk mkC encC mkC_inj _) ?_; intro w2 hown1 hturn1)
    | go_in)
  go_ret
  have h := h.out
  refine ⟨rfl, Chg.of_turned hturn1, (turned_block hturn1 h.lt hMB).trans h.box, ints_chg h.ints h.away (Chg.of_turned hturn1), h.away, ?_, h.once.snoc hm.out _⟩
  rw [ent_snoc]
  simpa using hown1

/-- How many labels were given. -/
def fC (p : Int × Bool) : Int := if p.2 then 1 else 0

theorem next_C {w : World} {ops : Array Oper} {rest : List Oper} {o : Oper} {a : Act} {Q : Exit → Act → World → Prop}
    (hg : o.guard = none) (it : Operand) (hop : o.op = Op.next it false) (b r n : Nat) {es : Asked} (ho : Once es) (left : Lit → Bool) (cnt : Nat)
    (hit : a.eval it = .pointer (some ⟨r, 0, none⟩)) (h : w.ranges Try.prog 3 (rdR mkC encC) b r n (ent encC es) left cnt)
    (hDone : Hid (∀ kl, left kl = false) → wpList Try.prog ops Q rest (a.put o.dst (.tuple #[.bool false])) w)
    (hMore : ∀ (x : Int) (c : Bool) (w' : World) (cnt' : Nat), Hid ((x, c) ∈ es) → Hid (left (.int .i64 x) = true) → Hid (w'.ranges Try.prog 3 (rdR mkC encC) b r n (ent encC es) (fun z => left z && !z.sameKey (.int .i64 x)) cnt') → Hid (cnt' < cnt) →
      Hid (w.grownBy w' (some r)) → Hid (w'.heap.size = w.heap.size) → (Instr.entry (.pointer (some ⟨r, 0, none⟩))).run Try.prog w' = .ok (.tuple #[.int .i64 x, .bool c]) w' → wpList Try.prog ops Q rest (a.put o.dst (.tuple #[.bool true, .int .i64 x, .bool c])) w') :
    wpList Try.prog ops Q (o :: rest) a w :=
  wpList_next_ent mkC_inj encC_inj (fun x => by simp [encC]) w hg it hop 3 law3 Try.underlying3 b r n ho left cnt hit h hDone (fun x c w' cnt' h1 h2 h3 h4 h5 h6 h7 => hMore x c w' cnt' h1 h2 h3 h4 h5 h6 h7)

theorem total_le : ∀ es : Asked, total fC es ≤ es.length
  | [] => by simp [total]
  | p :: es => by
    have := total_le es
    unfold total at this ⊢
    simp only [List.map_cons, List.sum_cons, List.length_cons, fC]
    split <;> omega

set_option maxRecDepth 100000 in
theorem clabels_any {w : World} {B M : Nat} {a : Option Addr} {n c : Nat} {F : Nat → Int} {es : Asked} (h : CarAt w B M a n c F es) (hn : es.length ≤ 1000) :
    Calls Try.prog 31 #[.pointer (some ⟨B, 0, none⟩)] w fun e w' => e = .returned (.int .i64 (total fC es)) ∧ Below w.heap.size w w' := by
  have c1 : w.cell? ⟨B, 1, none⟩ = some (.map (some M)) := by simp [World.cell?, h.box]
  have hown := h.map
  have honce := h.once
  have hst := gone_start encC fC es
  have hbs : Hid (∀ left : Lit → Bool, 0 ≤ gone fC left es ∧ gone fC left es ≤ 1000) := Lib.hid fun left => by
    have h1 := gone_bounds fC left es (fun p _ => by unfold fC; split <;> omega)
    have h2 := total_le es
    omega
  have hMl := hown.lt
  have hstr : Hid (∀ (left : Lit → Bool) (k : Int) (x : Bool), left (.int .i64 k) = true → (k, x) ∈ es → gone fC (fun z => left z && !z.sameKey (.int .i64 k)) es = gone fC left es + fC (k, x)) := Lib.hid fun left k x hl hm => gone_strike fC hl es honce hm
  have hend : Hid (∀ left : Lit → Bool, (∀ kl, left kl = false) → gone fC left es = total fC es) := Lib.hid fun left hl => gone_end fC hl es
  clear hn
  generalize hg : gone fC = G at *
  go_enter Try.func31, Try.ntmps31
  go_wp2_with (first
    | (at_range; refine wpList_range_own _ rfl _ 86 rfl 3 4 law3 Try.underlying86 _ M es.length _ rfl hown ?_; intro w0 hrg0 hg0 hs0)
    | go_in)
  go_frame
  go_loopw [3] (fun n wr => ∃ (left : Lit → Bool) (cnt : Nat), wr.ranges Try.prog 3 (rdR mkC encC) M w.heap.size es.length (ent encC es) left cnt ∧ n = .int .i64 (G left es) ∧ Below w.heap.size w wr)
    (fun _ wr => wr.rangeLeft M w.heap.size)
  case atStart => exact ⟨_, _, hrg0, by rw [hst], (Below.refl _ _).grown hg0 (Nat.le_refl _) (by simp)⟩
  case round =>
    obtain ⟨left, cnt, hrg, rfl, hbl⟩ := hrel
    have hsz := hbl.size
    go_wp2_with (first
      | (at_next; refine next_C rfl _ rfl M w.heap.size es.length honce left cnt rfl hrg (fun hl0 => ?_) (fun k x w1 cnt1 hmem hlk hrg1 hlt hg1 hs1 hen => ?_))
      | go_in)
    · go_ret
      exact ⟨by simp [hend.out left hl0.out], hbl⟩
    all_goals
      have hnew := hstr.out left k x hlk.out hmem.out
      have hb0 := hbs.out left
      have hs1' := hs1.out
      have hbl1 : Below w.heap.size w w1 := hbl.grown hg1.out (by omega) (by intro j hj; cases hj; exact Nat.le_refl _)
      refine ⟨⟨_, cnt1, hrg1.out, ?_, hbl1⟩, by rw [hrg1.out.left_eq, hrg.left_eq]; exact hlt.out⟩
      rw [hnew]
      congr 1
    · have hw : wrap64 (G left es + 1) = G left es + 1 := by unfold wrap64; omega
      simp_all [fC]
    · simp_all [fC]

end Go.Proofs.Ytmdkclgmibjlfaa.Ba
