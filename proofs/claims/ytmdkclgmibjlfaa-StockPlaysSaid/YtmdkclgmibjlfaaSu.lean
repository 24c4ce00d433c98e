/- The stock: made out of two lists. -/
import Derived.Test.YtmdkclgmibjlfaaSt
import Derived.OwnWalk
import Derived.Deep.RegionLaw
import Derived.Deep.AppendLies
import Derived.Deep.RegionWith
set_option linter.unusedVariables false
set_option linter.unusedSimpArgs false
namespace Go.Proofs.Ytmdkclgmibjlfaa.Ba
open Go.RowKit Go.Maps Go.Proofs.Ytmdkclgmibjlfaa.Mx Go.Proofs.Ytmdkclgmibjlfaa.Lib

abbrev Units := List (Int × Int × Bool × Bool)
def cells4 (E : Units) : List Value := E.flatMap fun p => [.int .i64 p.1, .int .i64 p.2.1, .bool p.2.2.1, .bool p.2.2.2]
abbrev d4 : Int × Int × Bool × Bool := (0, 0, false, false)

/-- Block B is a stock of these units; v is what its field holds. -/
structure StkAt (w : World) (B : Nat) (v : Value) (E : Units) : Prop where
  box : w.heap[B]? = some (.cells #[v] 78 (0, 0))
  row : w.ownsRow (B + 1) 80 4 v E.length (cells4 E)

theorem StkAt.lt {w : World} {B : Nat} {v : Value} {E : Units} (h : StkAt w B v E) : B < w.heap.size := (Array.getElem?_eq_some_iff.1 h.box).1
theorem owns_keep {w w' : World} {base : Nat} {e : TypeId} {size : Nat} {v : Value} {n : Nat} {xs : List Value} (h : w.ownsRow base e size v n xs) (hb : Below w.heap.size w w') : w'.ownsRow base e size v n xs :=
  h.kept (row := none) ⟨hb.os, hb.tape, hb.output, hb.size, fun k hk _ => hb.block k hk⟩ (by cases hv : v.ownBlock <;> simp)
theorem StkAt.keep {w w' : World} {B : Nat} {v : Value} {E : Units} (h : StkAt w B v E) (hb : Below w.heap.size w w') : StkAt w' B v E :=
  ⟨(hb.block B h.lt).trans h.box, owns_keep h.row hb⟩

def usOf (P S : Nat → Int) (k : Nat) : Units := (List.range k).map fun j => (P j, S j, false, false)
theorem usOf_len (P S : Nat → Int) (k : Nat) : (usOf P S k).length = k := by simp [usOf]
theorem usOf_succ (P S : Nat → Int) (k : Nat) : usOf P S (k + 1) = usOf P S k ++ [(P k, S k, false, false)] := by simp [usOf, List.range_succ]
theorem cells4_snoc (E : Units) (p : Int × Int × Bool × Bool) : cells4 (E ++ [p]) = cells4 E ++ [.int .i64 p.1, .int .i64 p.2.1, .bool p.2.2.1, .bool p.2.2.2] := by simp [cells4]

/-- Are all places places? -/
def okP (n : Nat) (P : Nat → Int) : Bool := (List.range n).all fun j => decide (0 ≤ P j) && decide (P j < 9)
theorem okP_iff (n : Nat) (P : Nat → Int) : okP n P = true ↔ ∀ j, j < n → 0 ≤ P j ∧ P j < 9 := by simp [okP]

/-- What New leaves. -/
def newPost (w : World) (Y : Bool) (E : Units) (e : Ending) (w' : World) : Prop :=
  (Y = true → e = .returned (.tuple #[.pointer (some ⟨w.heap.size, 0, none⟩), .int .i64 0]) ∧ ∃ v, StkAt w' w.heap.size v E) ∧ (Y = false → e = .returned (.tuple #[.pointer none, .int .i64 1])) ∧ Below w.heap.size w w'

theorem info80 : (Try.prog.info? 80).map (fun i => (i.zero, i.size, i.bytes)) = some (some (.agg #[.int .i64 0, .int .i64 0, .bool false, .bool false]), 4, 24) := by kernel_rfl

theorem snew_lens {a1 a2 : Option Addr} {n c m d : Nat} (w : World) (h : n ≠ m ∨ 200 < n) (hn : n ≤ 9223372036854775807) (hm : m ≤ 9223372036854775807) :
    Calls Try.prog 17 #[.slice a1 n c, .slice a2 m d] w fun e w' => e = .returned (.tuple #[.pointer none, .int .i64 1]) ∧ w' = w := by
  by_cases hnm : n = m
  · subst hnm
    have h2 : (200 : Int) < n := by omega
    go_enter Try.func17, Try.ntmps17
    go_wp2_with fail
    go_ret2
    exact ⟨rfl, rfl⟩
  · have h2 : ((n : Int) != (m : Int)) = true := by simp; omega
    have h3 : ((n : Int) == (m : Int)) = false := by simp; omega
    go_enter Try.func17, Try.ntmps17
    go_wp2_with fail
    go_ret2
    exact ⟨rfl, rfl⟩

theorem stk_grow {wr wa w5 : World} {B g cap n : Nat} {v : Value} {E E' : Units} (hst : StkAt wr B v E) (ha : Below wr.heap.size wr wa) (hgrow : wa.grownBy w5 v.ownBlock) (hn : n = E'.length)
    (hown5 : w5.ownsRow (B + 1) 80 4 (.slice (some ⟨g, 0, none⟩) n cap) n (cells4 E')) :
    StkAt (w5.setCell ⟨B, 0, none⟩ (.slice (some ⟨g, 0, none⟩) n cap)) B (.slice (some ⟨g, 0, none⟩) n cap) E' ∧ Below B wr (w5.setCell ⟨B, 0, none⟩ (.slice (some ⟨g, 0, none⟩) n cap)) := by
  subst hn
  have hBl := hst.lt
  have has := ha.size
  have hnb : ∀ i, i ≤ B → some i ≠ v.ownBlock := fun i hi e => by have := (hst.row.lt i e.symm).1; omega
  have e5 : w5.heap[B]? = some (.cells #[v] 78 (0, 0)) := (hgrow.block B (by omega) (hnb B (Nat.le_refl _))).trans ((ha.block B hBl).trans hst.box)
  refine ⟨⟨heap_setCell_same w5 B 0 _ _ _ e5, ?_⟩, ?_⟩
  · refine hown5.kept (row := some B) ⟨rfl, rfl, rfl, by simp, fun i hi hne => heap_setCell_other w5 ⟨B, 0, none⟩ i _ (fun e => hne (by rw [e]))⟩ (Or.inr ?_)
    intro e
    have := (hown5.lt B e).1
    omega
  · refine ⟨hgrow.os.trans ha.os, hgrow.tape.trans ha.tape, hgrow.output.trans ha.output, by have := hgrow.size; simp; omega, fun i hi => ?_⟩
    exact (heap_setCell_other w5 ⟨B, 0, none⟩ i _ (by show i ≠ B; omega)).trans ((hgrow.block i (by omega) (hnb i (by omega))).trans (ha.block i (by omega)))

set_option maxRecDepth 100000 in
set_option maxHeartbeats 1600000 in
theorem snew_any {a1 a2 : Option Addr} {n c d : Nat} {S P : Nat → Int} (w : World) (h1 : IntsAt w .i64 a1 n S) (h2 : IntsAt w .i64 a2 n P) (hn : n ≤ 200) {Y : Bool} (hY : Hid (okP n P = Y)) :
    Calls Try.prog 17 #[.slice a1 n c, .slice a2 n d] w fun e w' => newPost w Y (usOf P S n) e w' := by
  have hn' : ¬ (200 : Int) < n := by omega
  have H1 := Lib.hid h1
  have H2 := Lib.hid h2
  clear h1 h2
  go_enter Try.func17, Try.ntmps17
  go_wp2_with fail
  have hX0 := heap_alloc_new w (.cells #[.slice none 0 0] 78)
  have hb0 := Lib.hid ((Below.refl w.heap.size w).alloc (Nat.le_refl _) (.cells #[.slice none 0 0] 78))
  have hX : (w.alloc (.cells #[.slice none 0 0] 78)).heap.size = w.heap.size + 1 := by simp
  generalize w.alloc (.cells #[.slice none 0 0] 78) = w0 at *
  generalize hB : w.heap.size = B at *
  go_loopw [23] (fun i wr => ∃ (k : Nat) (v : Value), k ≤ n ∧ i = .int .i64 k ∧ Hid (∀ j, j < k → 0 ≤ P j ∧ P j < 9) ∧ Hid (StkAt wr B v (usOf P S k)) ∧ Hid (Below B w wr)) (fun i _ => n - (intOf i).toNat)
  case atStart => exact ⟨0, .slice none 0 0, Nat.zero_le _, rfl, Lib.hid (fun j hj => absurd hj (by omega)), Lib.hid ⟨hX0, World.ownsRow_nil _ _ _ _⟩, hb0⟩
  case round =>
    obtain ⟨k, v, hk, rfl, hok, hst, hbl⟩ := hrel
    by_cases hlt : k < n
    · obtain ⟨b1, o1, rfl, hb1, hc1⟩ := H1.out.2 (by omega)
      obtain ⟨b2, o2, rfl, hb2, hc2⟩ := H2.out.2 (by omega)
      have ck1 : wr.cell? ⟨b1, o1 + k, none⟩ = some (.int .i64 (S k)) := (hbl.out.cell (p := ⟨b1, o1 + k, none⟩) (by show b1 < B; omega)).trans (hc1 k hlt)
      have ck2 : wr.cell? ⟨b2, o2 + k, none⟩ = some (.int .i64 (P k)) := (hbl.out.cell (p := ⟨b2, o2 + k, none⟩) (by show b2 < B; omega)).trans (hc2 k hlt)
      have hlt' : (k : Int) < n := by omega
      have hus := Lib.hid (usOf_succ P S k)
      have hul := Lib.hid (usOf_len P S k)
      have hokk := Lib.hid (fun h => (okP_iff n P).1 h k hlt)
      have hok2 := Lib.hid (fun (h : 0 ≤ P k ∧ P k < 9) => show ∀ j, j < k + 1 → 0 ≤ P j ∧ P j < 9 from fun j hj => by
        by_cases e : j = k
        · rw [e]; exact h
        · exact hok.out j (by omega))
      clear hc1 hc2
      generalize P k = p at *
      generalize S k = s at *
      by_cases q1 : p < 0
      · go_wp2_with fail
        go_ret2
        refine ⟨fun h => ?_, fun _ => rfl, hB ▸ hbl.out⟩
        have := hokk.out (hY.out.trans h)
        omega
      by_cases q2 : 9 ≤ p
      · go_wp2_with fail
        go_ret2
        refine ⟨fun h => ?_, fun _ => rfl, hB ▸ hbl.out⟩
        have := hokk.out (hY.out.trans h)
        omega
      have hok3 := Lib.hid (hok2.out (by omega))
      have cB : wr.cell? ⟨B, 0, none⟩ = some v := by simp [World.cell?, hst.out.box]
      have hBl := hst.out.lt
      have hnb : v.ownBlock ≠ some B := fun e => by have := (hst.out.row.lt B e).1; omega
      have hown : wr.ownsRow (B + 1) 80 4 v k (cells4 (usOf P S k)) := by
        have := hst.out.row
        rwa [hul.out] at this
      have hown := Lib.hid hown
      obtain ⟨i80, hi, hz0, hz1, hz2⟩ := info_parts info80
      clear hok2 hokk
      go_wp2_with fail
      go_region_law (refine step_append_lies _ rfl _ _ _ rfl (B + 1) 80 i80 (.agg #[.int .i64 0, .int .i64 0, .bool false, .bool false]) 4 24 Try.underlying76 hi hz0 hz1 hz2 rfl (by decide) v k (cells4 (usOf P S k)) rfl (hown.out.alloc _) ⟨wr.heap.size, 0, none⟩ 1 1 [.int .i64 p, .int .i64 s, .bool false, .bool false] rfl rfl (World.news_of_block (heap_alloc_new _ _)) (fun x hx => by simp at hx; rcases hx with rfl | rfl | rfl <;> rfl) (by omega) (by unfold maxLen; omega) (by omega) (by simp; omega) _ rfl ?_; intro g cap w5 hown5 hgrow hat hlg; have e5 : w5.heap[B]? = some (.cells #[v] 78 (0, 0)) := (hgrow.block B (by simp <;> omega) (fun e => hnb e.symm)).trans ((heap_alloc_old wr.drew _ hBl).trans hst.out.box); have cB5 : w5.cell? ⟨B, 0, none⟩ = some v := (by simp [World.cell?, e5]); have fB5 : w5.frozen? ⟨B, 0, none⟩ = false := (by simp [World.frozen?, e5]))
      all_goals
        have hgr := stk_grow (E' := usOf P S (k + 1)) hst.out (((Below.refl wr.heap.size wr).alloc (Nat.le_refl _) (.cells #[.int .i64 p, .int .i64 s, .bool false, .bool false] 80)).drew) hgrow (by rw [usOf_len]) (by rw [hus.out, cells4_snoc]; exact hown5)
        have hg1 := Lib.hid hgr.1
        have hg2 := Lib.hid (hbl.out.trans hgr.2)
        clear hgr
        go_wp2_with fail
        go_roundw
        case rel => exact ⟨k + 1, _, by omega, by go_num, hok3, hg1, hg2⟩
        case measure => simp [intOf]; omega
    · obtain rfl : k = n := by omega
      have hlt' : ¬ (k : Int) < k := by omega
      go_wp2_with fail
      go_ret2
      refine ⟨fun _ => ⟨by simp [hB], v, hB ▸ hst.out⟩, fun h => ?_, hB ▸ hbl.out⟩
      have := (okP_iff k P).2 hok.out
      rw [hY.out, h] at this
      cases this

end Go.Proofs.Ytmdkclgmibjlfaa.Ba
