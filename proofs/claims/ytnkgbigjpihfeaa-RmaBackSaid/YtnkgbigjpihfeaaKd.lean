/- The codec's writer: bytes put, one behind the other. -/
import Derived.Test.YtnkgbigjpihfeaaProg
import Derived.Test.YtnkgbigjpihfeaaOpen
import Derived.WalkKit
import Derived.ProofKit
import Derived.Lib.Hide
import Derived.Laws.Rows
import Derived.LoopTactic
import Derived.LoopN
import Derived.OwnWalk
import Derived.Deep.AppendLies
import Derived.Deep.QuietTactic
import Derived.BigQuiet
import Derived.Lib.SliceRun
set_option linter.unusedVariables false
set_option linter.unusedSimpArgs false
namespace Go.Proofs.Ytnkgbigjpihfeaa.Kd
open Go.RowKit Go.Proofs.Ytnkgbigjpihfeaa.Lib

def bts (l : List Int) : List Value := l.map (Value.int .u8)
theorem info5 : (Try.prog.info? 5).map (fun i => (i.zero, i.size, i.bytes)) = some (some (.int .u8 0), 1, 1) := by kernel_rfl

/-- The bytes of a number, the least first. -/
def leB (v : Int) : Nat → List Int
  | 0 => []
  | n + 1 => (v % 256) :: leB (v / 256) n
theorem leB_len : ∀ (n : Nat) (v : Int), (leB v n).length = n
  | 0, _ => rfl
  | n + 1, v => by simp [leB, leB_len n]

/-- Block O is a writer; v is what its field holds; these are its bytes. -/
structure OutAt (w : World) (O : Nat) (v : Value) (l : List Int) (bad : Bool) : Prop where
  box : w.heap[O]? = some (.cells #[v, .bool bad] 39 (0, 0))
  row : w.ownsRow (O + 1) 5 1 v l.length (bts l)

theorem OutAt.lt {w : World} {O : Nat} {v : Value} {l : List Int} {bad : Bool} (h : OutAt w O v l bad) : O < w.heap.size := (Array.getElem?_eq_some_iff.1 h.box).1
theorem owns_keep {w w' : World} {base : Nat} {e : TypeId} {size : Nat} {v : Value} {n : Nat} {xs : List Value} (h : w.ownsRow base e size v n xs) (hb : Below w.heap.size w w') : w'.ownsRow base e size v n xs :=
  h.kept (row := none) ⟨hb.os, hb.tape, hb.output, hb.size, fun k hk _ => hb.block k hk⟩ (by cases hv : v.ownBlock <;> simp)
theorem OutAt.keep {w w' : World} {O : Nat} {v : Value} {l : List Int} {bad : Bool} (h : OutAt w O v l bad) (hb : Below w.heap.size w w') : OutAt w' O v l bad :=
  ⟨(hb.block O h.lt).trans h.box, owns_keep h.row hb⟩

theorem out_grow {wr wa w5 : World} {O g cap n : Nat} {v : Value} {l l' : List Int} {bad : Bool} (hst : OutAt wr O v l bad) (ha : Below wr.heap.size wr wa) (hgrow : wa.grownBy w5 v.ownBlock) (hn : n = l'.length)
    (hown5 : w5.ownsRow (O + 1) 5 1 (.slice (some ⟨g, 0, none⟩) n cap) n (bts l')) :
    OutAt (w5.setCell ⟨O, 0, none⟩ (.slice (some ⟨g, 0, none⟩) n cap)) O (.slice (some ⟨g, 0, none⟩) n cap) l' bad ∧ Below O wr (w5.setCell ⟨O, 0, none⟩ (.slice (some ⟨g, 0, none⟩) n cap)) := by
  subst hn
  have hBl := hst.lt
  have has := ha.size
  have hnb : ∀ i, i ≤ O → some i ≠ v.ownBlock := fun i hi e => by have := (hst.row.lt i e.symm).1; omega
  have e5 : w5.heap[O]? = some (.cells #[v, .bool bad] 39 (0, 0)) := (hgrow.block O (by omega) (hnb O (Nat.le_refl _))).trans ((ha.block O hBl).trans hst.box)
  refine ⟨⟨heap_setCell_same w5 O 0 _ _ _ e5, ?_⟩, ?_⟩
  · refine hown5.kept (row := some O) ⟨rfl, rfl, rfl, by simp, fun i hi hne => heap_setCell_other w5 ⟨O, 0, none⟩ i _ (fun e => hne (by rw [e]))⟩ (Or.inr ?_)
    intro e
    have := (hown5.lt O e).1
    omega
  · refine ⟨hgrow.os.trans ha.os, hgrow.tape.trans ha.tape, hgrow.output.trans ha.output, by have := hgrow.size; simp; omega, fun i hi => ?_⟩
    exact (heap_setCell_other w5 ⟨O, 0, none⟩ i _ (by show i ≠ O; omega)).trans ((hgrow.block i (by omega) (hnb i (by omega))).trans (ha.block i (by omega)))

/-- What number leaves. -/
def numPost (w : World) (O : Nat) (l : List Int) (e : Ending) (w' : World) : Prop := e = .returned (.tuple #[]) ∧ (∃ v', OutAt w' O v' l false) ∧ Below O w w'

set_option maxRecDepth 100000 in
set_option maxHeartbeats 1600000 in
theorem number_any {w : World} {O : Nat} {v0 : Value} {l : List Int} (h : OutAt w O v0 l false) (x : Int) (hx : 0 ≤ x ∧ x < 18446744073709551616) (size : Nat) (hs : size ≤ 8) (hl : l.length ≤ 1000000) :
    Calls Try.prog 81 #[.pointer (some ⟨O, 0, none⟩), .int .u64 x, .int .i64 size] w fun e w' => numPost w O (l ++ leB x size) e w' := by
  have h := Lib.hid h
  go_enter Try.func81, Try.ntmps81
  go_wp2_with fail
  go_loopw [1, 7] (fun xv i wr => ∃ (k : Nat) (y : Int) (v : Value) (l2 : List Int), k ≤ size ∧ i = .int .i64 k ∧ xv = .int .u64 y ∧ Hid (0 ≤ y ∧ y < 18446744073709551616) ∧ Hid (l2 ++ leB y (size - k) = l ++ leB x size) ∧ Hid (l2.length = l.length + k) ∧ Hid (OutAt wr O v l2 false) ∧ Hid (Below O w wr)) (fun _ i _ => size - (intOf i).toNat)
  case atStart => exact ⟨0, x, v0, l, Nat.zero_le _, rfl, rfl, Lib.hid hx, Lib.hid rfl, Lib.hid rfl, h, Lib.hid (Below.refl _ _)⟩
  case round =>
    obtain ⟨k, y, v, l2, hk, rfl, rfl, hy, he, hl2, hst, hbl⟩ := hrel
    by_cases hlt : k < size
    · have hlt' : (k : Int) < size := by omega
      have cB : wr.cell? ⟨O, 0, none⟩ = some v := by simp [World.cell?, hst.out.box]
      have hBl := hst.out.lt
      have hnb : v.ownBlock ≠ some O := fun e => by have := (hst.out.row.lt O e).1; omega
      have hown := Lib.hid hst.out.row
      obtain ⟨i5, hi, hz0, hz1, hz2⟩ := info_parts info5
      have hll := hl2.out
      have hy1 := hy.out.1
      have hy2 := hy.out.2
      have hly : (bts l2).length = l2.length * 1 := by simp [bts]
      go_wp2_with (first
        | (at_builtin; refine wpList_append_lies _ rfl _ _ 22 rfl (O + 1) 5 i5 (.int .u8 0) 1 1 Try.underlying22 hi hz0 hz1 hz2 rfl (by decide) v l2.length (bts l2) rfl (hown.out.alloc _) ⟨wr.heap.size, 0, none⟩ 1 1 [.int .u8 (y % 256)] rfl rfl (World.news_of_block (heap_alloc_new _ _)) (fun u hu => by simp at hu; subst hu; rfl) (by omega) (by unfold maxLen; omega) (by omega) (by simp <;> omega) _ rfl ?_; intro g cap w5 hown5 hgrow hat hlg; have e5 : w5.heap[O]? = some (.cells #[v, .bool false] 39 (0, 0)) := (hgrow.block O (by simp <;> omega) (fun e => hnb e.symm)).trans ((((Below.refl wr.heap.size wr).alloc (Nat.le_refl _) _).block O hBl).trans hst.out.box); have cB5 : w5.cell? ⟨O, 0, none⟩ = some v := (by simp [World.cell?, e5]); have fB5 : w5.frozen? ⟨O, 0, none⟩ = false := (by simp [World.frozen?, e5])))
      have hel : leB y (size - k) = (y % 256) :: leB (y / 256) (size - (k + 1)) := by
        have : size - k = (size - (k + 1)) + 1 := by omega
        rw [this]
        rfl
      have hgr := out_grow (n := l.length + k + 1) (l' := l2 ++ [y % 256]) hst.out ((Below.refl wr.heap.size wr).alloc (Nat.le_refl _) (.cells #[.int .u8 (y % 256)] 5)) hgrow (by simp; omega) (by simpa [bts, hll] using hown5)
      exact ⟨⟨k + 1, y / 256, _, l2 ++ [y % 256], by omega, by go_num, rfl, Lib.hid (by omega), Lib.hid (by rw [← he.out, hel]; simp), Lib.hid (by simp; omega), Lib.hid hgr.1, Lib.hid (hbl.out.trans hgr.2)⟩, by simp [intOf]; omega⟩
    · obtain rfl : k = size := by omega
      have hlt' : ¬ (k : Int) < k := by omega
      go_wp2_with fail
      go_end0
      have e : l2 = l ++ leB x k := by have := he.out; simpa [leB] using this
      subst e
      exact ⟨rfl, ⟨_, hst.out⟩, hbl.out⟩

set_option maxRecDepth 100000 in
theorem small2_ok {w : World} {O : Nat} {v0 : Value} {l : List Int} (h : OutAt w O v0 l false) (x : Int) (hx : 0 ≤ x ∧ x < 65536) (hl : l.length ≤ 1000000) :
    Calls Try.prog 80 #[.pointer (some ⟨O, 0, none⟩), .int .i64 x, .int .i64 2] w fun e w' => numPost w O (l ++ leB x 2) e w' := by
  have c1 : w.cell? ⟨O, 1, none⟩ = some (.bool false) := by simp [World.cell?, h.box]
  have H81 := Lib.hid (number_any h x (by omega) 2 (by omega) hl)
  have hx1 : ¬ x < 0 := by omega
  have hx2 : x / 65536 = 0 := by omega
  have hx3 : x % 18446744073709551616 = x := by omega
  go_enter Try.func80, Try.ntmps80
  go_wp2_with fail
  refine H81.out.mono ?_
  rintro e w1 ⟨rfl, h1, h2⟩
  have h1 := Lib.hid h1
  have h2 := Lib.hid h2
  go_wp2_with fail
  go_end0
  exact ⟨rfl, h1.out, h2.out⟩

theorem u16_ok {w : World} {O : Nat} {v0 : Value} {l : List Int} (h : OutAt w O v0 l false) (x : Int) (hx : 0 ≤ x ∧ x < 65536) (hl : l.length ≤ 1000000) :
    Calls Try.prog 58 #[.pointer (some ⟨O, 0, none⟩), .int .i64 x] w fun e w' => numPost w O (l ++ leB x 2) e w' := by
  have H := Lib.hid (small2_ok h x hx hl)
  go_enter Try.func58, Try.ntmps58
  go_wp2_with fail
  refine H.out.mono ?_
  rintro e w1 ⟨rfl, h1, h2⟩
  have h1 := Lib.hid h1
  have h2 := Lib.hid h2
  go_wp2_with fail
  go_end0
  exact ⟨rfl, h1.out, h2.out⟩

/-- What slices.Clone of bytes leaves. -/
def bclPost (w : World) (n : Nat) (F : Nat → Int) (e : Ending) (w' : World) : Prop :=
  ∃ a' c', e = .returned (.slice a' n c') ∧ IntsAt w' .u8 a' n F ∧ (a' = none → n = 0 ∧ c' = 0) ∧ n ≤ c' ∧ c' ≤ maxLen ∧ (∀ p, a' = some p → w.heap.size ≤ p.block ∧ p.block < w'.heap.size) ∧ Below w.heap.size w w'

theorem bclone_any {w : World} {a : Option Addr} {n c : Nat} {F : Nat → Int} (h : IntsAt w .u8 a n F) (ha : a = none → n = 0) (hn : n ≤ 140737488355328) :
    Calls Try.prog 59 #[.slice a n c] w fun e w' => bclPost w n F e w' := by
  have q22 : ∀ (w : World) (a : Option Addr) (n c n' c' : Nat), (binOp .eql 22 (.slice a n c) (.slice none n' c')).run Try.prog w = .ok (.bool a.isNone) w := fun w a n c n' c' => Go.Lib.run_eql_slice_nil w _ _ a n c n' c' Try.underlying22
  cases a with
  | none =>
    obtain rfl := ha rfl
    clear h ha
    go_enter Try.func59, Try.ntmps59
    go_wp2_with fail
    go_ret
    exact ⟨none, 0, by simp, ⟨by omega, fun h => absurd h (by omega)⟩, fun _ => ⟨rfl, rfl⟩, Nat.le_refl _, by decide, (fun p h => by cases h), Below.refl _ _⟩
  | some p =>
    have hcl := Lib.hid (show ∀ j u, (bts ((List.range n).map F))[j]? = some u → (w.alloc (.cells #[] 5)).cell? (p.add j) = some u from by
      intro j u hu
      have hj : j < n := by
        have := (List.getElem?_eq_some_iff.1 hu).1
        simpa [bts] using this
      obtain ⟨b, o, e, hb, hc⟩ := h.2 (by omega)
      cases e
      have hadd : (⟨b, o, none⟩ : Addr).add j = ⟨b, o + j, none⟩ := by unfold Addr.add; split <;> simp_all
      rw [hadd, ((Below.refl w.heap.size w).alloc (Nat.le_refl _) _).cell (p := ⟨b, o + j, none⟩) hb, hc j hj]
      simp [bts, hj] at hu
      rw [← hu])
    have h1c := Lib.hid (show ∀ u ∈ bts ((List.range n).map F), u.oneCell' = true from by
      intro u hu
      simp only [bts, List.mem_map] at hu
      obtain ⟨z, _, rfl⟩ := hu
      rfl)
    have hl : (bts ((List.range n).map F)).length = n * 1 := by simp [bts]
    clear h ha
    obtain ⟨i5, hi, hz0, hz1, hz2⟩ := info_parts info5
    go_enter Try.func59, Try.ntmps59
    go_wp2_with (first
      | (at_builtin; refine wpList_append_own _ rfl _ _ 22 rfl w.heap.size 5 i5 (.int .u8 0) 1 1 Try.underlying22 hi hz0 hz1 hz2 rfl (by decide) (.slice (some ⟨w.heap.size, 0, none⟩) 0 0) 0 [] rfl (World.ownsRow_made w #[] 0 (Nat.le_refl _) (by decide) rfl) p n c (bts ((List.range n).map F)) rfl hl hcl.out h1c.out (by unfold maxLen; omega) (by omega) (by simp) ?_; intro v' w5 hown' hgrow hnil))
    go_ret
    have hr : w5.ownsRow w.heap.size 5 1 v' n (bts ((List.range n).map F)) := by simpa using hown'
    have hbw : Below w.heap.size w w5 := by
      refine ((Below.refl w.heap.size w).alloc (Nat.le_refl _) _).trans ⟨hgrow.os, hgrow.tape, hgrow.output, hgrow.size, fun k hk => hgrow.block k (by simp; omega) ?_⟩
      intro e
      have e : k = w.heap.size := by injection e
      omega
    rcases hr.2 with ⟨rfl, h0⟩ | ⟨g, cap, cur, rfl, hg0, hg, hnc, hcm, hcs, ht⟩
    · subst h0
      exact ⟨none, 0, by simp, ⟨by omega, fun h => absurd h (by omega)⟩, fun _ => ⟨rfl, rfl⟩, Nat.le_refl _, by decide, (fun p h => by cases h), hbw⟩
    · refine ⟨some ⟨g, 0, none⟩, cap, by simp, ⟨by unfold maxLen at hcm; omega, fun _ => ⟨g, 0, rfl, (Array.getElem?_eq_some_iff.1 hg).1, fun j hj => ?_⟩⟩, (fun h => by cases h), hnc, hcm, (fun p h => by cases h; exact ⟨hg0, (Array.getElem?_eq_some_iff.1 hg).1⟩), hbw⟩
      have := hr.cellAt j (by omega)
      simpa [bts, hj] using this

end Go.Proofs.Ytnkgbigjpihfeaa.Kd
