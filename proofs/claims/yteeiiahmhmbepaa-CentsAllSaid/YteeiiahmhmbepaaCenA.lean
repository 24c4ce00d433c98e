/- The law CentsAll, walked: a list's sum is what it comes to, one by one, or refused; every list. -/
import Derived.Test.YteeiiahmhmbepaaCen
import Derived.Test.YteeiiahmhmbepaaOpen
import Derived.LoopTactic
set_option linter.unusedVariables false
namespace Go.Proofs.Yteeiiahmhmbepaa.Led
open Go.RowKit Go.Proofs.Yteeiiahmhmbepaa.Lib

def sumF (F : Nat → Int) : Nat → Nat → Int → Int × Int
  | 0, _, n => (n, 0)
  | r + 1, k, n => if adde n (F k) = 0 then sumF F r (k + 1) (addv n (F k)) else (0, 9)

theorem sum_any (a : Option Addr) (len cap : Nat) (F : Nat → Int) (w : World) (hs : IntsAt w .i64 a len F) :
    Calls Try.prog 26 #[.slice a len cap] w fun e w' => e = .returned (.tuple #[.int .i64 (sumF F len 0 0).1, .int .i64 (sumF F len 0 0).2]) ∧ w = w' := by
  obtain ⟨hbig, hs⟩ := hs
  obtain ⟨S, hS⟩ : ∃ S, sumF F len 0 0 = S := ⟨_, rfl⟩
  rw [hS]
  have HS := Lib.hid hS
  clear hS
  have Hs := Lib.hid hs
  clear hs
  go_enter Try.func26, Try.ntmps26
  go_wp2
  go_loop [4, 10] (fun n i => ∃ (k : Nat) (z : Int), k ≤ len ∧ i = .int .i64 k ∧ n = .int .i64 z ∧ Hid (sumF F (len - k) k z = S)) (fun _ i => len - (intOf i).toNat)
  case atStart => exact ⟨0, 0, Nat.zero_le _, rfl, rfl, HS⟩
  case round =>
    obtain ⟨k, z, hk, rfl, rfl, hR⟩ := hrel
    by_cases hlt : k < len
    · obtain ⟨b, off, rfl, hb, hc⟩ := Hs.out (by omega)
      have hcell := hc k hlt
      have hR' := hR.out
      rw [show len - k = (len - (k + 1)) + 1 from by omega, sumF] at hR'
      have HR := Lib.hid hR'
      clear hc hb hR hR' Hs HS
      by_cases he : adde z (F k) = 0
      · rw [if_pos he] at HR
        generalize F k = x at *
        go_wp2_with (go_at_call 19; refine (add_any _ _ _).mono ?_; rintro e w' ⟨rfl, rfl⟩)
        go_round
        case rel => exact ⟨k + 1, _, hlt, by go_num, rfl, HR⟩
        case measure => simp [intOf]; omega
      · rw [if_neg he] at HR
        generalize F k = x at *
        have he' : adde z x = 9 := by
          unfold adde te at he ⊢
          split
          · split
            · rename_i h1 h2; rw [if_pos h1, if_pos h2] at he; exact absurd rfl he
            · rfl
          · rfl
        clear he
        have HR2 := HR.out
        go_wp2_with (go_at_call 19; refine (add_any _ _ _).mono ?_; rintro e w' ⟨rfl, rfl⟩)
        go_ret2
        exact ⟨by simp [← HR2], rfl⟩
    · have hR' := hR.out
      rw [show len - k = 0 from by omega, sumF] at hR'
      have HR := Lib.hid hR'
      clear hR hR' Hs HS
      go_wp2
      go_ret2
      have HR2 := HR.out
      exact ⟨by simp [← HR2], rfl⟩

theorem below_draws' (B : Nat) (w : World) (n : Nat) : Below B w (w.drewN n) := ⟨rfl, rfl, rfl, Nat.le_refl _, fun _ _ => rfl⟩

theorem intsAt_drewN {w : World} {k : IntKind} {a : Option Addr} {len : Nat} {F : Nat → Int} (h : IntsAt w k a len F) (n : Nat) : IntsAt (w.drewN n) k a len F := h

theorem all_any (a : Option Addr) (len cap : Nat) (F : Nat → Int) (w : World) (hs : IntsAt w .i64 a len F) :
    Calls Try.prog 6 #[.slice a len cap] w fun e w' => e = .returned (.bool true) ∧ Below w.heap.size w w' := by
  have hbig := hs.1
  have Hs := Lib.hid hs
  clear hs
  by_cases hlong : 1000 < len
  · go_enter Try.func6, Try.ntmps6
    go_wp2_with (go_at_call 15; refine (awake05 _).mono ?_; rintro e w' ⟨rfl, n, rfl⟩)
    go_ret
    exact ⟨by simp, below_draws' _ _ _⟩
  · obtain ⟨S, X, hS⟩ : ∃ S X, sumF F len 0 0 = (S, X) := ⟨_, _, rfl⟩
    have Hsum : Hid (∀ w, IntsAt w .i64 a len F → Calls Try.prog 26 #[.slice a len cap] w fun e w' => e = .returned (.tuple #[.int .i64 S, .int .i64 X]) ∧ w = w') := by
      refine Lib.hid ?_
      intro w h
      have := sum_any a len cap F w h
      rw [hS] at this
      exact this
    have HS := Lib.hid hS
    clear hS
    go_enter Try.func6, Try.ntmps6
    go_wp2_with fail
    refine (awake05 _).mono ?_
    rintro e w' ⟨rfl, n1, rfl⟩
    go_wp2_with fail
    refine (Hsum.out _ (intsAt_drewN Hs.out _)).mono ?_
    rintro e w' ⟨rfl, rfl⟩
    clear Hsum
    go_wp2_with fail
    go_loop [5, 22] (fun n i => ∃ (k : Nat) (z : Int), k ≤ len ∧ i = .int .i64 k ∧ n = .int .i64 z ∧ Hid (sumF F (len - k) k z = (S, X)) ∧ -1125899906842624 ≤ z ∧ z ≤ 1125899906842624) (fun _ i => len - (intOf i).toNat)
    case atStart => exact ⟨0, 0, Nat.zero_le _, rfl, rfl, HS, by omega, by omega⟩
    case round =>
      obtain ⟨k, z, hk, rfl, rfl, hR, hz0, hz1⟩ := hrel
      have hz : rt z = true := rt_iff.2 ⟨hz0, hz1⟩
      by_cases hlt : k < len
      · obtain ⟨b, off, rfl, hb, hc⟩ := Hs.out.2 (by omega)
        have hcell := hc k hlt
        have hR' := hR.out
        rw [show len - k = (len - (k + 1)) + 1 from by omega, sumF] at hR'
        generalize F k = x at *
        cases hx : rt x
        · have he : adde z x = 9 := by simp [adde, ok2, hx]
          rw [he, if_neg (by decide)] at hR'
          obtain ⟨rfl, rfl⟩ := Prod.mk.inj hR'
          clear hc hb hR hR' Hs HS he hz
          go_wp2_with (go_at_call 21; refine (refright_any _ _).mono ?_; rintro e w' ⟨rfl, rfl⟩)
          go_ret
          exact ⟨by simp, below_draws' _ _ _⟩
        · obtain ⟨hx0, hx1⟩ := rt_iff.1 hx
          cases hzx : rt (z + x)
          · have he : adde z x = 9 := by simp [adde, ok2, hx, hz, te, hzx]
            rw [he, if_neg (by decide)] at hR'
            obtain ⟨rfl, rfl⟩ := Prod.mk.inj hR'
            clear hc hb hR hR' Hs HS he hz
            go_wp2_with (go_at_call 21; refine (refright_any _ _).mono ?_; rintro e w' ⟨rfl, rfl⟩)
            go_ret
            exact ⟨by simp, below_draws' _ _ _⟩
          · have he : adde z x = 0 := by simp [adde, ok2, hx, hz, te, hzx]
            have hv : addv z x = z + x := by simp [addv, ok2, hx, hz, tv, hzx]
            rw [he, if_pos rfl, hv] at hR'
            have HR := Lib.hid hR'
            obtain ⟨hs0, hs1⟩ := rt_iff.1 hzx
            clear hc hb hR hR' Hs HS he hv hz
            go_wp2_with (go_at_call 21; refine (refright_any _ _).mono ?_; rintro e w' ⟨rfl, rfl⟩)
            go_round
            case rel => exact ⟨k + 1, z + x, hlt, by go_num, by go_num, HR, hs0, hs1⟩
            case measure => simp [intOf]; omega
      · have hR' := hR.out
        rw [show len - k = 0 from by omega, sumF] at hR'
        obtain ⟨rfl, rfl⟩ := Prod.mk.inj hR'
        clear hR hR' Hs HS
        go_wp2
        go_ret
        exact ⟨by simp, below_draws' _ _ _⟩

end Go.Proofs.Yteeiiahmhmbepaa.Led
