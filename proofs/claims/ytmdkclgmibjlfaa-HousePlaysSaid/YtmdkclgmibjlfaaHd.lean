/- HousePlays: what was asked first as a row that grows; a step of the house; is a unit there. -/
import Derived.Test.YtmdkclgmibjlfaaHb
import Derived.Test.YtmdkclgmibjlfaaSc
import Derived.WalkSmall
import Derived.OwnWalk
set_option linter.unusedVariables false
set_option linter.unusedSimpArgs false
namespace Go.Proofs.Ytmdkclgmibjlfaa.Ba
open Go.RowKit Go.Maps Go.Proofs.Ytmdkclgmibjlfaa.Mx Go.Proofs.Ytmdkclgmibjlfaa.Lib

theorem memb_iff (m : Nat) (F : Nat → Int) (x : Int) : memb m F x = true ↔ ∃ j, j < m ∧ F j = x := by
  simp [memb, List.contains_iff_mem]

theorem there_any {a : Option Addr} {m c : Nat} {F : Nat → Int} {w : World} (h : IntsAt w .i64 a m F) (x : Int) {Y : Bool} (hY : Hid (memb m F x = !Y)) :
    Calls Try.prog 41 #[.slice a m c, .int .i64 x] w fun e w' => e = .returned (.bool Y) ∧ w' = w := by
  have hbig := h.1
  have H := Lib.hid h
  have Y1 : Hid (∀ j, j < m → F j = x → Y = false) := Lib.hid fun j h1 h2 => by
    have := (memb_iff m F x).2 ⟨j, h1, h2⟩
    rw [hY.out] at this
    simpa using this
  have Y2 : Hid ((∀ j, j < m → F j ≠ x) → Y = true) := Lib.hid fun h => by
    cases hq : memb m F x
    · have := hY.out
      rw [hq] at this
      simpa using this.symm
    · obtain ⟨j, h1, h2⟩ := (memb_iff m F x).1 hq
      exact absurd h2 (h j h1)
  clear h hY
  go_enter Try.func41, Try.ntmps41
  go_wp2_with fail
  go_loopw [8] (fun i wr => ∃ k : Nat, k ≤ m ∧ i = .int .i64 k ∧ Hid (∀ j, j < k → F j ≠ x) ∧ wr = w) (fun i _ => m - (intOf i).toNat)
  case atStart => exact ⟨0, Nat.zero_le _, rfl, Lib.hid (fun j hj => absurd hj (by omega)), rfl⟩
  case round =>
    obtain ⟨k, hk, rfl, hF, rfl⟩ := hrel
    by_cases hlt : k < m
    · obtain ⟨b, o, rfl, hb, hc⟩ := H.out.2 (by omega)
      have ck := hc k hlt
      have hlt' : (k : Int) < m := by omega
      replace hc := Lib.hid hc
      have hy := Lib.hid (Y1.out k hlt)
      have hF2 := Lib.hid (fun h : F k ≠ x => show ∀ j, j < k + 1 → F j ≠ x from fun j hj => by
        by_cases e : j = k
        · rw [e]; exact h
        · exact hF.out j (by omega))
      generalize F k = y at *
      cases hxy : (y == x)
      · have hF3 := Lib.hid (hF2.out (by simpa using hxy))
        go_wp2_with fail
        go_roundw
        case rel => exact ⟨k + 1, by omega, by go_num, hF3, by simp⟩
        case measure => simp [intOf]; omega
      · have := hy.out (by simpa using hxy)
        subst this
        go_wp2_with fail
        go_ret
        exact ⟨rfl, rfl⟩
    · obtain rfl : k = m := by omega
      have hlt' : ¬ (k : Int) < k := by omega
      have := Y2.out hF.out
      subst this
      go_wp2_with fail
      go_ret
      exact ⟨rfl, rfl⟩

/-- The row of what was asked first. -/
def cells2 (E : Sents) : List Value := E.flatMap fun p => [.int .i64 p.1, .int .i64 p.2.1]

theorem cells2_len : ∀ E : Sents, (cells2 E).length = E.length * 2
  | [] => rfl
  | p :: E => by
    have := cells2_len E
    simp only [cells2, List.flatMap_cons, List.length_append, List.length_cons, List.length_nil] at this ⊢
    omega

theorem cells2_at : ∀ (E : Sents) (j : Nat), j < E.length → (cells2 E)[j * 2]? = some (.int .i64 (E.getD j (0, 0, false)).1) ∧ (cells2 E)[j * 2 + 1]? = some (.int .i64 (E.getD j (0, 0, false)).2.1)
  | [], j, h => absurd h (by simp)
  | p :: E, 0, h => by simp [cells2]
  | p :: E, j + 1, h => by
    have ih := cells2_at E j (by simpa using h)
    have e1 : (j + 1) * 2 = j * 2 + 1 + 1 := by omega
    simp only [cells2, List.flatMap_cons, e1] at ih ⊢
    simpa using ih

theorem pairs_of_row {w : World} {base : Nat} {v : Value} {E : Sents} (h : w.ownsRow base 72 2 v E.length (cells2 E)) :
    ∃ a c, v = .slice a E.length c ∧ PairsAt w a E.length (fun j => (E.getD j (0, 0, false)).1) (fun j => (E.getD j (0, 0, false)).2.1) := by
  rcases h.2 with ⟨rfl, h0⟩ | ⟨g, cap, cur, rfl, hb, hg, hnc, hcm, hcs, ht⟩
  · exact ⟨none, 0, by rw [h0], by omega, fun hp => absurd hp (by omega)⟩
  · refine ⟨_, cap, rfl, by unfold maxLen at hcm; omega, fun hp => ⟨g, 0, rfl, (Array.getElem?_eq_some_iff.1 hg).1, fun j hj => ?_⟩⟩
    obtain ⟨h1, h2⟩ := cells2_at E j hj
    have c1 := h.cellAt (j * 2) (by omega)
    have c2 := h.cellAt (j * 2 + 1) (by omega)
    rw [h1] at c1
    rw [h2] at c2
    exact ⟨by simpa using c1, by simpa using c2⟩

/-- What the document answers to what is asked first. -/
def hval (m : Nat) (F R : Nat → Int) (j : Nat) : Int × Bool := (R j, !memb m F (R j))

theorem hval_all (m : Nat) (F K R : Nat → Int) : ∀ i, ∀ p ∈ esOf (hval m F R) K i, p.2.2 = !memb m F p.2.1
  | 0, p, h => by simp [esOf] at h
  | i + 1, p, h => by
    cases hk : keyIn (esOf (hval m F R) K i) (K i)
    · rw [esOf_new _ K hk] at h
      rcases List.mem_append.1 h with h | h
      · exact hval_all m F K R i p h
      · simp at h; subst h; rfl
    · rw [esOf_old _ K hk] at h
      exact hval_all m F K R i p h

/-- One asking, i asked already; at is where its key stands then. -/
theorem hask_step {w : World} {B M : Nat} {a : Option Addr} {m c i : Nat} {F K R : Nat → Int} (h : HouAt w B M a m c F (esOf (hval m F R) K i)) (hwk : (Lit.int .i64 (K i)).wf = true) (hi : i ≤ 1000)
    {at_ : Nat} {u : Int} {y : Bool} (hat : (esOf (hval m F R) K (i + 1))[at_]? = some (K i, u, y)) :
    Calls Try.prog 40 #[.pointer (some ⟨B, 0, none⟩), .int .i64 (K i), .int .i64 (R i)] w fun e w' => e = .returned (.bool y) ∧ Chg B M w w' ∧ HouAt w' B M a m c F (esOf (hval m F R) K (i + 1)) := by
  have hlen := len_esOf (hval m F R) K i
  have ho := once_esOf (hval m F R) K (i + 1)
  have hm := List.mem_of_getElem? hat
  cases hk : keyIn (esOf (hval m F R) K i) (K i)
  · rw [esOf_new _ K hk] at hm ho ⊢
    have e := ho.same hm (show (K i, hval m F R i) ∈ _ by simp)
    obtain ⟨rfl, rfl⟩ := Prod.mk.inj e
    refine (hask_new h hk hwk (R i) (by have := maxLen_big2; omega) (Y := !memb m F (R i)) (Lib.hid (by simp))).mono ?_
    rintro e w' ⟨rfl, hc, hb⟩
    exact ⟨rfl, hc, hb⟩
  · rw [esOf_old _ K hk] at hm ⊢
    refine (hask_old h hm hwk (R i)).mono ?_
    rintro e w' ⟨rfl, hb⟩
    exact ⟨rfl, Chg.of_below hb, h.keep hb⟩

end Go.Proofs.Ytmdkclgmibjlfaa.Ba
