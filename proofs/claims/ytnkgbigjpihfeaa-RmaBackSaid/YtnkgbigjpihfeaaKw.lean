/- The document's bytes and numbers; lists compared. -/
import Derived.Test.YtnkgbigjpihfeaaKr
set_option linter.unusedVariables false
set_option linter.unusedSimpArgs false
namespace Go.Proofs.Ytnkgbigjpihfeaa.Kd
open Go.RowKit Go.Proofs.Ytnkgbigjpihfeaa.Lib

theorem below_dn (B : Nat) (w : World) (n : Nat) : Below B w (w.drewN n) := ⟨rfl, rfl, rfl, Nat.le_refl _, fun _ _ => rfl⟩
theorem lof_eq {n m : Nat} {F G : Nat → Int} : lof n F = lof m G ↔ n = m ∧ ∀ j, j < n → F j = G j := by
  constructor
  · intro h
    have hl : n = m := by have := congrArg List.length h; simpa [lof] using this
    subst hl
    exact ⟨rfl, fun j hj => by rw [← gtD_lof (F := F) hj, h, gtD_lof hj]⟩
  · rintro ⟨rfl, h⟩
    exact List.map_congr_left (fun j hj => h j (List.mem_range.1 hj))

theorem bytes_eq {w : World} {a1 a2 : Option Addr} {n m c d : Nat} {F G : Nat → Int} (h1 : IntsAt w .u8 a1 n F) (h2 : IntsAt w .u8 a2 m G) :
    Calls Try.prog 29 #[.slice a1 n c, .slice a2 m d] w fun e w' => e = .returned (.bool (decide (lof n F = lof m G))) ∧ ∃ q, w' = w.drewN q := by
  have hbig := h1.1
  have hbig2 := h2.1
  by_cases hnm : n = m
  · subst hnm
    have H1 := Lib.hid h1
    have H2 := Lib.hid h2
    have HS : Hid (decide (lof n F = lof n G) = true ↔ ∀ j, j < n → F j = G j) := Lib.hid (by simp [lof_eq])
    clear h1 h2
    generalize decide (lof n F = lof n G) = S at *
    go_enter Try.func29, Try.ntmps29
    go_wp2_with fail
    go_loopw [13] (fun i wr => ∃ k q : Nat, k ≤ n ∧ i = .int .i64 k ∧ Hid (∀ j, j < k → F j = G j) ∧ wr = w.drewN q) (fun i _ => n - (intOf i).toNat)
    case atStart => exact ⟨0, 0, Nat.zero_le _, rfl, Lib.hid (fun j hj => absurd hj (by omega)), rfl⟩
    case round =>
      obtain ⟨k, q, hk, rfl, hF, rfl⟩ := hrel
      by_cases hlt : k < n
      · obtain ⟨b1, o1, rfl, hb1, hc1⟩ := H1.out.2 (by omega)
        obtain ⟨b2, o2, rfl, hb2, hc2⟩ := H2.out.2 (by omega)
        have d1 := hc1 k hlt
        have d2 := hc2 k hlt
        clear hc1 hc2
        have HN : Hid (F k ≠ G k → S = false) := Lib.hid (fun h => by
          cases hS : S
          · rfl
          · exact absurd (HS.out.1 hS k hlt) h)
        have HY : Hid (F k = G k → ∀ j, j < k + 1 → F j = G j) := Lib.hid (fun h j hj => by
          by_cases hjk : j = k
          · rw [hjk]; exact h
          · exact hF.out j (by omega))
        generalize F k = x at *
        generalize G k = y at *
        cases hxy : (x == y)
        · have hxy' : (x != y) = true := by simpa using hxy
          have hs := HN.out (by simpa using hxy)
          clear HN HY HS
          subst hs
          go_wp2_with fail
          go_quiet (fail)
          go_wp2_with fail
          go_ret
          exact ⟨by simp, by first | exact ⟨_, rfl⟩ | (rw [World.drewN_drewN]; exact ⟨_, rfl⟩)⟩
        · have hxy' : (x != y) = false := by simpa using hxy
          have hy := Lib.hid (HY.out (by simpa using hxy))
          clear HN HY HS
          go_wp2_with fail
          go_quiet (fail)
          go_wp2_with fail
          go_roundw
          case rel => exact ⟨k + 1, q + nq, by omega, by go_num, hy, by simp⟩
          case measure => simp [intOf]; omega
      · have hs : S = true := HS.out.2 (fun j hj => hF.out j (by omega))
        subst hs
        clear HS hF
        go_wp2_with fail
        go_ret
        exact ⟨by simp, q, rfl⟩
  · have hf : decide (lof n F = lof m G) = false := by simp [lof_eq, hnm]
    rw [hf]
    clear h1 h2 hf
    have hnm' : ((n : Int) == (m : Int)) = false := by simp; omega
    have hnm2 : ((n : Int) != (m : Int)) = true := by simp; omega
    go_enter Try.func29, Try.ntmps29
    go_wp2_with fail
    go_ret
    exact ⟨by simp, 0, rfl⟩

theorem leL_u64 {L : List Int} (h : okB L) (hl : L.length ≤ 8) : 0 ≤ leL L ∧ leL L < 18446744073709551616 := by
  have hb := leL_bounds h
  have e8 : (256 : Int) ^ 8 = 18446744073709551616 := by decide
  have : (256 : Int) ^ L.length ≤ 256 ^ 8 := by
    have h' : (256 : Nat) ^ L.length ≤ 256 ^ 8 := Nat.pow_le_pow_right (by decide) hl
    have e1 : (256 : Int) ^ L.length = ((256 ^ L.length : Nat) : Int) := by rw [Int.natCast_pow]; rfl
    have e2 : (256 : Int) ^ 8 = ((256 ^ 8 : Nat) : Int) := by decide
    rw [e1, e2]
    exact Int.ofNat_le.2 h'
  omega

theorem lof_drop {n k : Nat} {F : Nat → Int} (hk : k < n) : (lof n F).drop k = F k :: (lof n F).drop (k + 1) := by
  have h : k < (lof n F).length := by simpa [lof] using hk
  rw [List.drop_eq_getElem_cons h]
  simp [lof]

set_option maxRecDepth 100000 in
theorem refNumber {w : World} {a : Option Addr} {n c : Nat} {F : Nat → Int} (h : IntsAt w .u8 a n F) (hn : n ≤ 8) (hF : ∀ j, j < n → 0 ≤ F j ∧ F j < 256) :
    Calls Try.prog 18 #[.slice a n c] w fun e w' => e = .returned (.int .u64 (leL (lof n F))) ∧ w' = w := by
  have hb : Hid (∀ k, 0 ≤ leL ((lof n F).drop k) ∧ leL ((lof n F).drop k) < 18446744073709551616) := Lib.hid (fun k => leL_u64 (okB_drop (okB_lof hF) k) (by simp [lof]; omega))
  have H := Lib.hid h
  replace hF := Lib.hid hF
  clear h
  have e0 : (lof n F).drop n = [] := by simp [lof]
  go_enter Try.func18, Try.ntmps18
  go_wp2_with fail
  go_loopw [3, 4] (fun v i wr => ∃ k : Nat, k ≤ n ∧ i = .int .i64 ((k : Int) - 1) ∧ v = .int .u64 (leL ((lof n F).drop k)) ∧ wr = w) (fun _ i _ => (intOf i + 1).toNat)
  case atStart => exact ⟨n, Nat.le_refl _, by go_num, by rw [e0]; rfl, rfl⟩
  case round =>
    obtain ⟨k, hk, rfl, rfl, rfl⟩ := hrel
    by_cases hlt : 0 < k
    · obtain ⟨j, rfl⟩ : ∃ j, k = j + 1 := ⟨k - 1, by omega⟩
      obtain ⟨b, o, rfl, hbb, hc⟩ := H.out.2 (by omega)
      have cj := hc j (by omega)
      have hs : leL ((lof n F).drop j) = F j + 256 * leL ((lof n F).drop (j + 1)) := by rw [lof_drop (by omega)]; rfl
      have b0 := hb.out j
      have b1 := hb.out (j + 1)
      have bF := hF.out j (by omega)
      have hji : ((j + 1 : Nat) : Int) - 1 = j := by omega
      rw [hji]
      rw [hs] at b0
      replace hs := Lib.hid hs
      replace hc := Lib.hid hc
      generalize leL ((lof n F).drop (j + 1)) = V at *
      generalize F j = f at *
      have w1 : f % 18446744073709551616 = f := by omega
      have w2 : (V * 256) % 18446744073709551616 = V * 256 := by omega
      have w3 : (V * 256 + f) % 18446744073709551616 = V * 256 + f := by omega
      have hj0 : ¬ (j : Int) < 0 := by omega
      have hjn : (j : Int) < n := by omega
      go_wp2_with fail
      exact ⟨⟨j, by omega, by go_num, by rw [hs.out]; congr 1; omega, by trivial⟩, by simp [intOf]⟩
    · obtain rfl : k = 0 := by omega
      go_wp2_with fail
      go_ret
      exact ⟨by simp, rfl⟩

/-- What the document's bytes leave. -/
def refBytesPost (w : World) (l : List Int) (e : Ending) (w' : World) : Prop := ∃ v, e = .returned v ∧ w'.ownsRow w.heap.size 5 1 v l.length (bts l) ∧ Below w.heap.size w w'

set_option maxRecDepth 100000 in
theorem refBytes (w : World) (x : Int) (hx : 0 ≤ x ∧ x < 18446744073709551616) (k : Nat) (hk : k ≤ 8) :
    Calls Try.prog 68 #[.int .u64 x, .int .i64 k] w fun e w' => refBytesPost w (leB x k) e w' := by
  go_enter Try.func68, Try.ntmps68
  go_wp2_with fail
  go_loopw [0, 5, 7] (fun xv ov i wr => ∃ (j : Nat) (y : Int) (l2 : List Int), j ≤ k ∧ i = .int .i64 j ∧ xv = .int .u64 y ∧ Hid (0 ≤ y ∧ y < 18446744073709551616) ∧ Hid (l2 ++ leB y (k - j) = leB x k) ∧ Hid (l2.length = j) ∧ Hid (wr.ownsRow w.heap.size 5 1 ov l2.length (bts l2)) ∧ Hid (Below w.heap.size w wr)) (fun _ _ i _ => k - (intOf i).toNat)
  case atStart => exact ⟨0, x, [], Nat.zero_le _, rfl, rfl, Lib.hid hx, Lib.hid rfl, Lib.hid rfl, Lib.hid (World.ownsRow_nil _ _ _ _), Lib.hid (Below.refl _ _)⟩
  case round =>
    obtain ⟨j, y, l2, hj, rfl, rfl, hy, he, hl2, hown, hbl⟩ := hrel
    by_cases hlt : j < k
    · have hlt' : (j : Int) < k := by omega
      obtain ⟨i5, hi, hz0, hz1, hz2⟩ := info_parts info5
      have hll := hl2.out
      have hy1 := hy.out.1
      have hy2 := hy.out.2
      have hbs := hbl.out.size
      go_wp2_with (first
        | (at_builtin; refine wpList_append_lies _ rfl _ _ 22 rfl w.heap.size 5 i5 (.int .u8 0) 1 1 Try.underlying22 hi hz0 hz1 hz2 rfl (by decide) _ l2.length (bts l2) rfl (hown.out.alloc _) ⟨wr.heap.size, 0, none⟩ 1 1 [.int .u8 (y % 256)] rfl rfl (World.news_of_block (heap_alloc_new _ _)) (fun u hu => by simp at hu; subst hu; rfl) (by omega) (by unfold maxLen; omega) (by omega) (by simp <;> omega) _ rfl ?_; intro g cap w5 hown5 hgrow hat hlg))
      have hel : leB y (k - j) = (y % 256) :: leB (y / 256) (k - (j + 1)) := by
        have : k - j = (k - (j + 1)) + 1 := by omega
        rw [this]
        rfl
      have hb5 : Below w.heap.size wr w5 := by
        refine ((Below.refl w.heap.size wr).alloc hbs _).trans ⟨hgrow.os, hgrow.tape, hgrow.output, hgrow.size, fun i hi => hgrow.block i (by simp; omega) (fun e => ?_)⟩
        have := (hown.out.lt i e.symm).1
        omega
      exact ⟨⟨j + 1, y / 256, l2 ++ [y % 256], by omega, by go_num, by first | rfl | trivial, Lib.hid (by omega), Lib.hid (by rw [← he.out, hel]; simp), Lib.hid (by simp; omega), Lib.hid (by simpa [bts, hll] using hown5), Lib.hid (hbl.out.trans hb5)⟩, by simp [intOf]; omega⟩
    · obtain rfl : j = k := by omega
      have hlt' : ¬ (j : Int) < j := by omega
      go_wp2_with fail
      go_ret
      have e : l2 = leB x j := by have := he.out; simpa [leB] using this
      subst e
      exact ⟨_, by simp, hown.out, hbl.out⟩

/-- A reader of such bytes. -/
def newInL (w : World) (L : List Int) (e : Ending) (w' : World) : Prop := ∃ I, e = .returned (.pointer (some ⟨I, 0, none⟩)) ∧ InL w' I L false ∧ w.heap.size ≤ I ∧ Below w.heap.size w w'
theorem newIn_l {w : World} {a : Option Addr} {n c : Nat} {F : Nat → Int} (h : IntsAt w .u8 a n F) (ha : a = none → n = 0) (hn : n ≤ 140737488355328) (hF : ∀ j, j < n → 0 ≤ F j ∧ F j < 256) :
    Calls Try.prog 16 #[.slice a n c] w fun e w' => newInL w (lof n F) e w' := by
  refine (newIn_any (c := c) h ha hn hF).mono ?_
  rintro e w' ⟨I, a', c', rfl, h1, h2, h3, h4⟩
  exact ⟨I, rfl, InL.of h1 (by simp [lof]) (fun j hj => (gtD_lof hj).symm), h2, h4⟩

/-- A new writer. -/
theorem newOut (w : World) : OutAt (w.alloc (.cells #[.slice none 0 0, .bool false] 39)) w.heap.size (.slice none 0 0) [] false := ⟨heap_alloc_new _ _, World.ownsRow_nil _ _ _ _⟩

end Go.Proofs.Ytnkgbigjpihfeaa.Kd
