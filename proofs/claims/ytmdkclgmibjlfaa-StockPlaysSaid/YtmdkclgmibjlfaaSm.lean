/- The document's stock: a model made out of two lists; read. -/
import Derived.Test.YtmdkclgmibjlfaaSw
set_option linter.unusedVariables false
set_option linter.unusedSimpArgs false
namespace Go.Proofs.Ytmdkclgmibjlfaa.Ba
open Go.RowKit Go.Maps Go.Proofs.Ytmdkclgmibjlfaa.Mx Go.Proofs.Ytmdkclgmibjlfaa.Lib

theorem quads_of_row {w : World} {base : Nat} {e : TypeId} {v : Value} {E : Units} (h : w.ownsRow base e 4 v E.length (cells4 E)) :
    ∃ a c, v = .slice a E.length c ∧ E.length ≤ 9223372036854775807 ∧ (∀ j, j < E.length → ∃ g, a = some ⟨g, 0, none⟩ ∧ g < w.heap.size ∧ base ≤ g ∧ QuadAt w g (j * 4) (E.getD j d4)) := by
  rcases h.2 with ⟨hv, h0⟩ | ⟨g, cap, cur, hv, hb, hg, hnc, hcm, hcs, ht⟩
  · exact ⟨none, 0, by rw [hv, h0], by omega, fun j hj => absurd hj (by omega)⟩
  · refine ⟨_, cap, hv, by unfold maxLen at hcm; omega, fun j hj => ⟨g, rfl, (Array.getElem?_eq_some_iff.1 hg).1, hb, ?_⟩⟩
    have hr := h
    rw [hv] at hr
    obtain ⟨h1, h2, h3, h4⟩ := cells4_at E j hj
    have c1 := hr.cellAt (j * 4) (by omega)
    have c2 := hr.cellAt (j * 4 + 1) (by omega)
    have c3 := hr.cellAt (j * 4 + 2) (by omega)
    have c4 := hr.cellAt (j * 4 + 3) (by omega)
    rw [h1] at c1
    rw [h2] at c2
    rw [h3] at c3
    rw [h4] at c4
    exact ⟨c1, c2, c3, c4, fun i => hr.frozenAt i⟩

theorem info43 : (Try.prog.info? 43).map (fun i => (i.zero, i.size, i.bytes)) = some (some (.agg #[.int .i64 0, .int .i64 0, .bool false, .bool false]), 4, 24) := by kernel_rfl

/-- What model leaves. -/
def modelPost (w : World) (Y : Bool) (E : Units) (e : Ending) (w' : World) : Prop :=
  (Y = true → ∃ v, e = .returned (.tuple #[v, .bool true]) ∧ w'.ownsRow w.heap.size 43 4 v E.length (cells4 E)) ∧ (Y = false → e = .returned (.tuple #[.slice none 0 0, .bool false])) ∧ Below w.heap.size w w'

theorem model_lens {a1 a2 : Option Addr} {n c m d : Nat} (w : World) (h : n ≠ m ∨ 200 < n) (hn : n ≤ 9223372036854775807) (hm : m ≤ 9223372036854775807) :
    Calls Try.prog 23 #[.slice a1 n c, .slice a2 m d] w fun e w' => e = .returned (.tuple #[.slice none 0 0, .bool false]) ∧ w' = w := by
  by_cases hnm : n = m
  · subst hnm
    have h2 : (200 : Int) < n := by omega
    go_enter Try.func23, Try.ntmps23
    go_wp2_with fail
    go_ret2
    exact ⟨rfl, rfl⟩
  · have h2 : ((n : Int) != (m : Int)) = true := by simp; omega
    have h3 : ((n : Int) == (m : Int)) = false := by simp; omega
    go_enter Try.func23, Try.ntmps23
    go_wp2_with fail
    go_ret2
    exact ⟨rfl, rfl⟩

set_option maxRecDepth 100000 in
set_option maxHeartbeats 1600000 in
theorem model_any {a1 a2 : Option Addr} {n c d : Nat} {S P : Nat → Int} (w : World) (h1 : IntsAt w .i64 a1 n S) (h2 : IntsAt w .i64 a2 n P) (hn : n ≤ 200) {Y : Bool} (hY : Hid (okP n P = Y)) :
    Calls Try.prog 23 #[.slice a1 n c, .slice a2 n d] w fun e w' => modelPost w Y (usOf P S n) e w' := by
  have hn' : ¬ (200 : Int) < n := by omega
  have H1 := Lib.hid h1
  have H2 := Lib.hid h2
  clear h1 h2
  go_enter Try.func23, Try.ntmps23
  go_wp2_with fail
  go_loopw [6, 20] (fun v i wr => ∃ k : Nat, k ≤ n ∧ i = .int .i64 k ∧ Hid (∀ j, j < k → 0 ≤ P j ∧ P j < 9) ∧ Hid (wr.ownsRow w.heap.size 43 4 v k (cells4 (usOf P S k))) ∧ Hid (Below w.heap.size w wr)) (fun _ i _ => n - (intOf i).toNat)
  case atStart => exact ⟨0, Nat.zero_le _, rfl, Lib.hid (fun j hj => absurd hj (by omega)), Lib.hid (World.ownsRow_nil _ _ _ _), Lib.hid (Below.refl _ _)⟩
  case round =>
    obtain ⟨k, hk, rfl, hok, hown, hbl⟩ := hrel
    by_cases hlt : k < n
    · obtain ⟨b1, o1, rfl, hb1, hc1⟩ := H1.out.2 (by omega)
      obtain ⟨b2, o2, rfl, hb2, hc2⟩ := H2.out.2 (by omega)
      have ck1 : wr.cell? ⟨b1, o1 + k, none⟩ = some (.int .i64 (S k)) := (hbl.out.cell (p := ⟨b1, o1 + k, none⟩) hb1).trans (hc1 k hlt)
      have ck2 : wr.cell? ⟨b2, o2 + k, none⟩ = some (.int .i64 (P k)) := (hbl.out.cell (p := ⟨b2, o2 + k, none⟩) hb2).trans (hc2 k hlt)
      have hlt' : (k : Int) < n := by omega
      have hus := Lib.hid (usOf_succ P S k)
      have hokk := Lib.hid (fun h => (okP_iff n P).1 h k hlt)
      have hok2 := Lib.hid (fun (h : 0 ≤ P k ∧ P k < 9) => show ∀ j, j < k + 1 → 0 ≤ P j ∧ P j < 9 from fun j hj => by
        by_cases e : j = k
        · rw [e]; exact h
        · exact hok.out j (by omega))
      clear hc1 hc2
      generalize P k = p at *
      generalize S k = s at *
      by_cases q1 : p < 0
      · go_wp2_with fail
        go_ret2
        refine ⟨fun h => ?_, fun _ => rfl, hbl.out⟩
        have := hokk.out (hY.out.trans h)
        omega
      by_cases q2 : 8 < p
      · go_wp2_with fail
        go_ret2
        refine ⟨fun h => ?_, fun _ => rfl, hbl.out⟩
        have := hokk.out (hY.out.trans h)
        omega
      have hok3 := Lib.hid (hok2.out (by omega))
      have hbs := hbl.out.size
      obtain ⟨i43, hi, hz0, hz1, hz2⟩ := info_parts info43
      have hvb := Lib.hid hown.out.lt
      clear hok2 hokk
      go_wp2_with fail
      go_region_law (refine step_append_lies _ rfl _ _ _ rfl w.heap.size 43 i43 (.agg #[.int .i64 0, .int .i64 0, .bool false, .bool false]) 4 24 Try.underlying39 hi hz0 hz1 hz2 rfl (by decide) u6 k (cells4 (usOf P S k)) rfl (hown.out.alloc _) ⟨wr.heap.size, 0, none⟩ 1 1 [.int .i64 p, .int .i64 s, .bool false, .bool false] rfl rfl (World.news_of_block (heap_alloc_new _ _)) (fun x hx => by simp at hx; rcases hx with rfl | rfl | rfl <;> rfl) (by omega) (by unfold maxLen; omega) (by omega) (by simp; omega) _ rfl ?_; intro g cap w5 hown5 hgrow hat hlg)
      all_goals
        have hb5 : Below w.heap.size w w5 := (hbl.out.trans (((Below.refl w.heap.size wr).alloc hbs (.cells #[.int .i64 p, .int .i64 s, .bool false, .bool false] 43)).drew)).trans ⟨hgrow.os, hgrow.tape, hgrow.output, hgrow.size, fun i hi => hgrow.block i (by simp; omega) (fun e => by have := (hvb.out i e.symm).1; omega)⟩
        have ho5 := Lib.hid (show w5.ownsRow w.heap.size 43 4 (.slice (some ⟨g, 0, none⟩) (k + 1) cap) (k + 1) (cells4 (usOf P S (k + 1))) from by rw [hus.out, cells4_snoc]; exact hown5)
        replace hb5 := Lib.hid hb5
        go_wp2_with fail
        go_roundw
        case rel => exact ⟨k + 1, by omega, by go_num, hok3, ho5, hb5⟩
        case measure => simp [intOf]; omega
    · obtain rfl : k = n := by omega
      have hlt' : ¬ (k : Int) < k := by omega
      go_wp2_with fail
      go_ret2
      refine ⟨fun _ => ⟨u6, by simp, by rw [usOf_len]; exact hown.out⟩, fun h => ?_, hbl.out⟩
      have := (okP_iff k P).2 hok.out
      rw [hY.out, h] at this
      cases this

theorem sku_any {w : World} {B : Nat} {v : Value} {E : Units} (h : StkAt w B v E) {j : Nat} (hj : j < E.length) : Calls Try.prog 47 #[.pointer (some ⟨B, 0, none⟩), .int .i64 j] w fun e w' => e = .returned (.int .i64 (E.getD j d4).2.1) ∧ w' = w := by
  obtain ⟨a, c, rfl, hb, hq⟩ := h.opn
  obtain ⟨g, rfl, hg, hBg, q⟩ := hq j hj
  have cB : w.cell? ⟨B, 0, none⟩ = some (.slice (some ⟨g, 0, none⟩) E.length c) := by simp [World.cell?, h.box]
  have c0 := q.c1
  have H46 := Lib.hid (has_any h j (Y := true) (Lib.hid (inR_nat hj)))
  have hj' : (j : Int) < E.length := by omega
  clear q hq
  generalize (E.getD j d4).2.1 = p at *
  go_enter Try.func47, Try.ntmps47
  go_wp2_with fail
  refine H46.out.mono ?_
  rintro e w1 ⟨rfl, rfl⟩
  go_wp2_with fail
  go_ret
  exact ⟨rfl, rfl⟩

theorem sku_out {w : World} {B : Nat} {v : Value} {E : Units} (h : StkAt w B v E) {n : Int} (hn : inR E n = false) : Calls Try.prog 47 #[.pointer (some ⟨B, 0, none⟩), .int .i64 n] w fun e w' => e = .returned (.int .i64 (-1)) ∧ w' = w := by
  have H46 := Lib.hid (has_any h n (Y := false) (Lib.hid hn))
  go_enter Try.func47, Try.ntmps47
  go_wp2_with fail
  refine H46.out.mono ?_
  rintro e w1 ⟨rfl, rfl⟩
  go_wp2_with fail
  go_ret
  exact ⟨rfl, rfl⟩

theorem slen_any {w : World} {B : Nat} {v : Value} {E : Units} (h : StkAt w B v E) : Calls Try.prog 48 #[.pointer (some ⟨B, 0, none⟩)] w fun e w' => e = .returned (.int .i64 E.length) ∧ w' = w := by
  obtain ⟨a, c, rfl, hb, hq⟩ := h.opn
  have cB : w.cell? ⟨B, 0, none⟩ = some (.slice a E.length c) := by simp [World.cell?, h.box]
  clear hq
  go_enter Try.func48, Try.ntmps48
  go_wp2_with fail
  go_ret
  exact ⟨rfl, rfl⟩

end Go.Proofs.Ytmdkclgmibjlfaa.Ba
