/- Contracts of the money layer: cents.Right, Add, Sub, ledger.Post, Balance; whatever is handed in. -/
import Derived.Test.YteeiiahmhmbepaaProg
import Derived.WalkKit
import Derived.Lib.Hide
set_option linter.unusedVariables false
namespace Go.Proofs.Yteeiiahmhmbepaa.Led
open Go.RowKit

def rt (a : Int) : Bool := decide (-1125899906842624 ≤ a) && decide (a ≤ 1125899906842624)
theorem rt_iff {a : Int} : rt a = true ↔ -1125899906842624 ≤ a ∧ a ≤ 1125899906842624 := by simp [rt]
theorem rt_not {a : Int} : rt a = false ↔ ¬ (-1125899906842624 ≤ a ∧ a ≤ 1125899906842624) := by simp [rt]

theorem right_any (a : Int) (w : World) : Calls Try.prog 22 #[.int .i64 a] w fun e w' => e = .returned (.bool (rt a)) ∧ w = w' := by
  by_cases h1 : -1125899906842624 ≤ a
  · by_cases h2 : a ≤ 1125899906842624
    · have h : rt a = true := rt_iff.2 ⟨h1, h2⟩
      go_enter Try.func22, Try.ntmps22
      go_wp2
      go_ret
      exact ⟨by simp [h], rfl⟩
    · have h : rt a = false := rt_not.2 (by omega)
      go_enter Try.func22, Try.ntmps22
      go_wp2
      go_ret
      exact ⟨by simp, rfl⟩
  · have h : rt a = false := rt_not.2 (by omega)
    go_enter Try.func22, Try.ntmps22
    go_wp2
    go_ret
    exact ⟨by simp, rfl⟩

def tv (a : Int) : Int := if rt a = true then a else 0
def te (a : Int) : Int := if rt a = true then 0 else 9

theorem told_any (a : Int) (w : World) : Calls Try.prog 42 #[.int .i64 a] w fun e w' => e = .returned (.tuple #[.int .i64 (tv a), .int .i64 (te a)]) ∧ w = w' := by
  cases h : rt a
  all_goals
    go_enter Try.func42, Try.ntmps42
    go_wp2_with (go_at_call 22; refine (right_any _ _).mono ?_; rintro e w' ⟨rfl, rfl⟩)
    go_ret2
    exact ⟨by simp [tv, te, h], rfl⟩

def ok2 (a b : Int) : Bool := rt a && rt b
def addv (a b : Int) : Int := if ok2 a b = true then tv (a + b) else 0
def adde (a b : Int) : Int := if ok2 a b = true then te (a + b) else 9
def subv (a b : Int) : Int := if ok2 a b = true then tv (a - b) else 0
def sube (a b : Int) : Int := if ok2 a b = true then te (a - b) else 9

theorem add_any (a b : Int) (w : World) : Calls Try.prog 19 #[.int .i64 a, .int .i64 b] w fun e w' => e = .returned (.tuple #[.int .i64 (addv a b), .int .i64 (adde a b)]) ∧ w = w' := by
  cases ha : rt a <;> cases hb : rt b
  case true.true =>
    have hA := rt_iff.1 ha
    have hB := rt_iff.1 hb
    go_enter Try.func19, Try.ntmps19
    go_wp2_with (first | (go_at_call 22; refine (right_any _ _).mono ?_; rintro e w' ⟨rfl, rfl⟩) | (go_at_call 42; refine (told_any _ _).mono ?_; rintro e w' ⟨rfl, rfl⟩))
    go_ret2
    exact ⟨by simp [addv, adde, ok2, ha, hb], rfl⟩
  all_goals
    go_enter Try.func19, Try.ntmps19
    go_wp2_with (first | (go_at_call 22; refine (right_any _ _).mono ?_; rintro e w' ⟨rfl, rfl⟩) | (go_at_call 42; refine (told_any _ _).mono ?_; rintro e w' ⟨rfl, rfl⟩))
    go_ret2
    exact ⟨by simp [addv, adde, ok2, ha, hb], rfl⟩

theorem sub_any (a b : Int) (w : World) : Calls Try.prog 20 #[.int .i64 a, .int .i64 b] w fun e w' => e = .returned (.tuple #[.int .i64 (subv a b), .int .i64 (sube a b)]) ∧ w = w' := by
  cases ha : rt a <;> cases hb : rt b
  case true.true =>
    have hA := rt_iff.1 ha
    have hB := rt_iff.1 hb
    go_enter Try.func20, Try.ntmps20
    go_wp2_with (first | (go_at_call 22; refine (right_any _ _).mono ?_; rintro e w' ⟨rfl, rfl⟩) | (go_at_call 42; refine (told_any _ _).mono ?_; rintro e w' ⟨rfl, rfl⟩))
    go_ret2
    exact ⟨by simp [subv, sube, ok2, ha, hb], rfl⟩
  all_goals
    go_enter Try.func20, Try.ntmps20
    go_wp2_with (first | (go_at_call 22; refine (right_any _ _).mono ?_; rintro e w' ⟨rfl, rfl⟩) | (go_at_call 42; refine (told_any _ _).mono ?_; rintro e w' ⟨rfl, rfl⟩))
    go_ret2
    exact ⟨by simp [subv, sube, ok2, ha, hb], rfl⟩

def isB (n : Int) : Bool := decide (0 ≤ n) && decide (n < 5)
theorem isB_iff {n : Int} : isB n = true ↔ 0 ≤ n ∧ n < 5 := by simp [isB]
theorem is_any (n : Int) (w : World) : Calls Try.prog 47 #[.int .i64 n] w fun e w' => e = .returned (.bool (isB n)) ∧ w = w' := by
  by_cases h1 : 0 ≤ n
  · by_cases h2 : n < 5
    all_goals
      go_enter Try.func47, Try.ntmps47
      go_wp2
      go_ret
      refine ⟨by simp [isB, *], rfl⟩
  · go_enter Try.func47, Try.ntmps47
    go_wp2
    go_ret
    refine ⟨by simp [isB]; omega, rfl⟩

def arr (xs : List Int) : Array Value := (xs.map (Value.int .i64)).toArray
theorem arr_get (xs : List Int) (i : Nat) (h : i < xs.length) : (arr xs)[i]? = some (.int .i64 (xs.getD i 0)) := by simp [arr, h]

theorem balance_in (xs : List Int) (n : Int) (w : World) (hb : isB n = true) (hx : xs.length = 5) :
    Calls Try.prog 37 #[.agg (arr xs), .int .i64 n] w fun e w' => e = .returned (.int .i64 (xs.getD n.toNat 0)) ∧ Below w.heap.size w w' := by
  obtain ⟨h0, h5⟩ := isB_iff.1 hb
  have hi := arr_get xs n.toNat (by omega)
  have hc : (arr xs).size = 5 := by simp [arr, hx]
  generalize arr xs = c at *
  generalize xs.getD n.toNat 0 = v at *
  clear hx
  go_enter Try.func37, Try.ntmps37
  go_wp2_with (go_at_call 47; refine (is_any _ _).mono ?_; rintro e w' ⟨rfl, rfl⟩)
  go_ret
  refine ⟨?_, (Below.refl _ _).alloc (Nat.le_refl _) _⟩
  obtain ⟨h, hh⟩ := Array.getElem?_eq_some_iff.1 hi
  simp [hh]

theorem balance_out (c : Array Value) (n : Int) (w : World) (hb : isB n = false) (hc : c.size = 5) :
    Calls Try.prog 37 #[.agg c, .int .i64 n] w fun e w' => e = .returned (.int .i64 0) ∧ Below w.heap.size w w' := by
  go_enter Try.func37, Try.ntmps37
  go_wp2_with (go_at_call 47; refine (is_any _ _).mono ?_; rintro e w' ⟨rfl, rfl⟩)
  go_ret
  exact ⟨rfl, (Below.refl _ _).alloc (Nat.le_refl _) _⟩

def zer : List Int := [0, 0, 0, 0, 0]
def badB (f t s : Int) : Bool := !isB f || !isB t || f == t || decide (s < 0)
def setB (xs : List Int) (f t s : Int) : Bool := (sube (xs.getD f.toNat 0) s == 0) && (adde (xs.getD t.toNat 0) s == 0)
def postL (xs : List Int) (f t s : Int) : List Int :=
  if badB f t s = true then zer else if setB xs f t s = true then (xs.set f.toNat (subv (xs.getD f.toNat 0) s)).set t.toNat (addv (xs.getD t.toNat 0) s) else zer
def postE (xs : List Int) (f t s : Int) : Int :=
  if badB f t s = true then 1 else if setB xs f t s = true then 0 else 9

theorem post_bad (c : Array Value) (hc : c.size = 5) (f t s : Int) (w : World) (hb : badB f t s = true) :
    Calls Try.prog 36 #[.agg c, .int .i64 f, .int .i64 t, .int .i64 s] w fun e w' => e = .returned (.tuple #[.agg (arr zer), .int .i64 1]) ∧ Below w.heap.size w w' := by
  have Hb := Lib.hid hb
  clear hb
  cases h1 : isB f
  · go_enter Try.func36, Try.ntmps36
    go_wp2_with (go_at_call 47; refine (is_any _ _).mono ?_; rintro e w' ⟨rfl, rfl⟩)
    exact bodyPost_ret (v := .tuple #[.agg #[.int .i64 0, .int .i64 0, .int .i64 0, .int .i64 0, .int .i64 0], .int .i64 1]) (by simp [results, Try.results36, go_sem]) rfl ⟨rfl, ((Below.refl _ _).alloc (Nat.le_refl _) _).alloc (by simp) _⟩
  · cases h2 : isB t
    · go_enter Try.func36, Try.ntmps36
      go_wp2_with (first | (go_at_call 47; refine (is_any _ _).mono ?_; rintro e w' ⟨rfl, rfl⟩))
      exact bodyPost_ret (v := .tuple #[.agg #[.int .i64 0, .int .i64 0, .int .i64 0, .int .i64 0, .int .i64 0], .int .i64 1]) (by simp [results, Try.results36, go_sem]) rfl ⟨rfl, ((Below.refl _ _).alloc (Nat.le_refl _) _).alloc (by simp) _⟩
    · cases h3 : (f == t)
      · have h4 : s < 0 := by
          have := Hb.out
          simp [badB, h1, h2, h3] at this
          simp at h3
          omega
        go_enter Try.func36, Try.ntmps36
        go_wp2_with (first | (go_at_call 47; refine (is_any _ _).mono ?_; rintro e w' ⟨rfl, rfl⟩))
        exact bodyPost_ret (v := .tuple #[.agg #[.int .i64 0, .int .i64 0, .int .i64 0, .int .i64 0, .int .i64 0], .int .i64 1]) (by simp [results, Try.results36, go_sem]) rfl ⟨rfl, ((Below.refl _ _).alloc (Nat.le_refl _) _).alloc (by simp) _⟩
      · go_enter Try.func36, Try.ntmps36
        go_wp2_with (first | (go_at_call 47; refine (is_any _ _).mono ?_; rintro e w' ⟨rfl, rfl⟩))
        exact bodyPost_ret (v := .tuple #[.agg #[.int .i64 0, .int .i64 0, .int .i64 0, .int .i64 0, .int .i64 0], .int .i64 1]) (by simp [results, Try.results36, go_sem]) rfl ⟨rfl, ((Below.refl _ _).alloc (Nat.le_refl _) _).alloc (by simp) _⟩

theorem post_money (c : Array Value) (f t s x y : Int) (w : World) (hb : badB f t s = false) (hf : c[f.toNat]? = some (.int .i64 x)) (ht : c[t.toNat]? = some (.int .i64 y))
    (hm : (sube x s == 0 && adde y s == 0) = false) :
    Calls Try.prog 36 #[.agg c, .int .i64 f, .int .i64 t, .int .i64 s] w fun e w' => e = .returned (.tuple #[.agg (arr zer), .int .i64 9]) ∧ Below w.heap.size w w' := by
  obtain ⟨⟨⟨h1, h2⟩, h3⟩, h4⟩ : ((isB f = true ∧ isB t = true) ∧ (f == t) = false) ∧ (decide (s < 0)) = false := by simpa [badB] using hb
  obtain ⟨f0, f5⟩ := isB_iff.1 h1
  obtain ⟨t0, t5⟩ := isB_iff.1 h2
  have Hm := Lib.hid hm
  clear hm hb
  cases h5 : (sube x s == 0)
  · go_enter Try.func36, Try.ntmps36
    go_wp2_with (first | (go_at_call 47; refine (is_any _ _).mono ?_; rintro e w' ⟨rfl, rfl⟩) | (go_at_call 20; refine (sub_any _ _ _).mono ?_; rintro e w' ⟨rfl, rfl⟩) | (go_at_call 19; refine (add_any _ _ _).mono ?_; rintro e w' ⟨rfl, rfl⟩))
    exact bodyPost_ret (v := .tuple #[.agg #[.int .i64 0, .int .i64 0, .int .i64 0, .int .i64 0, .int .i64 0], .int .i64 9]) (by simp [results, Try.results36, go_sem]) rfl ⟨rfl, ((Below.refl _ _).alloc (Nat.le_refl _) _).alloc (by simp) _⟩
  · have h7 : (adde y s == 0) = false := by simpa [h5] using Hm.out
    have h8 : sube x s = 0 := by simpa using h5
    clear h5
    go_enter Try.func36, Try.ntmps36
    go_wp2_with (first | (go_at_call 47; refine (is_any _ _).mono ?_; rintro e w' ⟨rfl, rfl⟩) | (go_at_call 20; refine (sub_any _ _ _).mono ?_; rintro e w' ⟨rfl, rfl⟩) | (go_at_call 19; refine (add_any _ _ _).mono ?_; rintro e w' ⟨rfl, rfl⟩))
    exact bodyPost_ret (v := .tuple #[.agg #[.int .i64 0, .int .i64 0, .int .i64 0, .int .i64 0, .int .i64 0], .int .i64 9]) (by simp [results, Try.results36, go_sem]) rfl ⟨rfl, ((Below.refl _ _).alloc (Nat.le_refl _) _).alloc (by simp) _⟩


theorem post_good (c : Array Value) (d0 d1 d2 d3 d4 : Int) (f t s x y : Int) (w : World) (hb : badB f t s = false)
    (hf : c[f.toNat]? = some (.int .i64 x)) (ht : c[t.toNat]? = some (.int .i64 y)) (ht' : (c.setIfInBounds f.toNat (.int .i64 (subv x s)))[t.toNat]? = some (.int .i64 y))
    (e2 : (c.setIfInBounds f.toNat (.int .i64 (subv x s))).setIfInBounds t.toNat (.int .i64 (addv y s)) = #[Value.int .i64 d0, Value.int .i64 d1, Value.int .i64 d2, Value.int .i64 d3, Value.int .i64 d4])
    (h5 : sube x s = 0) (h6 : adde y s = 0) :
    Calls Try.prog 36 #[.agg c, .int .i64 f, .int .i64 t, .int .i64 s] w fun e w' => e = .returned (.tuple #[.agg #[Value.int .i64 d0, Value.int .i64 d1, Value.int .i64 d2, Value.int .i64 d3, Value.int .i64 d4], .int .i64 0]) ∧ Below w.heap.size w w' := by
  obtain ⟨⟨⟨h1, h2⟩, h3⟩, h4⟩ : ((isB f = true ∧ isB t = true) ∧ (f == t) = false) ∧ (decide (s < 0)) = false := by simpa [badB] using hb
  obtain ⟨f0, f5⟩ := isB_iff.1 h1
  obtain ⟨t0, t5⟩ := isB_iff.1 h2
  clear hb
  go_enter Try.func36, Try.ntmps36
  go_wp2_with (first | (go_at_call 47; refine (is_any _ _).mono ?_; rintro e w' ⟨rfl, rfl⟩) | (go_at_call 20; refine (sub_any _ _ _).mono ?_; rintro e w' ⟨rfl, rfl⟩) | (go_at_call 19; refine (add_any _ _ _).mono ?_; rintro e w' ⟨rfl, rfl⟩))
  exact bodyPost_ret (v := .tuple #[.agg #[.int .i64 d0, .int .i64 d1, .int .i64 d2, .int .i64 d3, .int .i64 d4], .int .i64 0]) (by simp [results, Try.results36, go_sem]) rfl ⟨rfl, ((Below.refl _ _).alloc (Nat.le_refl _) _).alloc (by simp) _⟩

theorem list5 {α : Type} {l : List α} (h : l.length = 5) : ∃ a b c d e, l = [a, b, c, d, e] := by
  match l, h with
  | [a, b, c, d, e], _ => exact ⟨a, b, c, d, e, rfl⟩

theorem arr_set (xs : List Int) (i : Nat) (x : Int) : (arr xs).setIfInBounds i (.int .i64 x) = arr (xs.set i x) := by
  apply Array.ext'
  simp [arr]

theorem arr_size (xs : List Int) : (arr xs).size = xs.length := by simp [arr]

theorem post_len (xs : List Int) (hx : xs.length = 5) (f t s : Int) : (postL xs f t s).length = 5 := by
  unfold postL
  split
  · rfl
  · split
    · simp [hx]
    · rfl

theorem post_any (xs : List Int) (hx : xs.length = 5) (f t s : Int) (w : World) :
    Calls Try.prog 36 #[.agg (arr xs), .int .i64 f, .int .i64 t, .int .i64 s] w fun e w' => e = .returned (.tuple #[.agg (arr (postL xs f t s)), .int .i64 (postE xs f t s)]) ∧ Below w.heap.size w w' := by
  cases hb : badB f t s
  · obtain ⟨⟨⟨h1, h2⟩, h3⟩, h4⟩ : ((isB f = true ∧ isB t = true) ∧ (f == t) = false) ∧ (decide (s < 0)) = false := by simpa [badB] using hb
    obtain ⟨f0, f5⟩ := isB_iff.1 h1
    obtain ⟨t0, t5⟩ := isB_iff.1 h2
    have h3' : f ≠ t := by simpa using h3
    have hf := arr_get xs f.toNat (by omega)
    have ht := arr_get xs t.toNat (by omega)
    cases hm : setB xs f t s
    · have e1 : postL xs f t s = zer := by simp [postL, hb, hm]
      have e2 : postE xs f t s = 9 := by simp [postE, hb, hm]
      rw [e1, e2]
      exact post_money _ f t s _ _ w hb hf ht hm
    · have e1 : postL xs f t s = (xs.set f.toNat (subv (xs.getD f.toNat 0) s)).set t.toNat (addv (xs.getD t.toNat 0) s) := by simp [postL, hb, hm]
      have e2 : postE xs f t s = 0 := by simp [postE, hb, hm]
      obtain ⟨h5, h6⟩ : sube (xs.getD f.toNat 0) s = 0 ∧ adde (xs.getD t.toNat 0) s = 0 := by simpa [setB] using hm
      rw [e1, e2]
      have ht' : ((arr xs).setIfInBounds f.toNat (.int .i64 (subv (xs.getD f.toNat 0) s)))[t.toNat]? = some (.int .i64 (xs.getD t.toNat 0)) := by
        rw [Array.getElem?_setIfInBounds, if_neg (by omega)]
        exact ht
      obtain ⟨d0, d1, d2, d3, d4, hd⟩ := list5 (l := (xs.set f.toNat (subv (xs.getD f.toNat 0) s)).set t.toNat (addv (xs.getD t.toNat 0) s)) (by simp [hx])
      have e3 : ((arr xs).setIfInBounds f.toNat (.int .i64 (subv (xs.getD f.toNat 0) s))).setIfInBounds t.toNat (.int .i64 (addv (xs.getD t.toNat 0) s)) = #[Value.int .i64 d0, Value.int .i64 d1, Value.int .i64 d2, Value.int .i64 d3, Value.int .i64 d4] := by
        rw [arr_set, arr_set, hd]
        rfl
      rw [hd]
      exact post_good _ d0 d1 d2 d3 d4 f t s _ _ w hb hf ht ht' e3 h5 h6
  · have e1 : postL xs f t s = zer := by simp [postL, hb]
    have e2 : postE xs f t s = 1 := by simp [postE, hb]
    rw [e1, e2]
    exact post_bad _ (by rw [arr_size, hx]) f t s w hb

theorem balance_any (xs : List Int) (hx : xs.length = 5) (n : Int) (w : World) :
    Calls Try.prog 37 #[.agg (arr xs), .int .i64 n] w fun e w' => e = .returned (.int .i64 (if isB n = true then xs.getD n.toNat 0 else 0)) ∧ Below w.heap.size w w' := by
  cases hb : isB n
  · rw [if_neg (by decide)]
    exact balance_out _ n w hb (by rw [arr_size, hx])
  · rw [if_pos rfl]
    exact balance_in xs n w hb hx

theorem below_le {B B' : Nat} {w w' : World} (h : Below B w w') (hb : B' ≤ B) : Below B' w w' := ⟨h.os, h.tape, h.output, h.size, fun k hk => h.block k (by omega)⟩

theorem bcell {W w1 : World} (hb : Below W.heap.size W w1) : (∀ b o, b < W.heap.size → w1.cell? ⟨b, o, none⟩ = W.cell? ⟨b, o, none⟩) ∧ (∀ b o, b < W.heap.size → w1.frozen? ⟨b, o, none⟩ = W.frozen? ⟨b, o, none⟩) :=
  ⟨fun b o h => hb.cell (p := ⟨b, o, none⟩) h, fun b o h => hb.frozen (p := ⟨b, o, none⟩) h⟩

theorem awake_any (w : World) : Calls Try.prog 35 #[] w fun e w' => e = .returned (.bool true) ∧ Below w.heap.size w w' := by
  go_enter Try.func35, Try.ntmps35
  go_wp2_with fail
  refine (show Calls _ _ _ _ _ from (post_any [0, 0, 0, 0, 0] rfl 0 1 5 _)).mono ?_
  rintro e w1 ⟨rfl, hb1⟩
  have e1 : arr (postL [0, 0, 0, 0, 0] 0 1 5) = #[.int .i64 (-5), .int .i64 5, .int .i64 0, .int .i64 0, .int .i64 0] := by kernel_rfl
  have e2 : postE [0, 0, 0, 0, 0] 0 1 5 = 0 := by decide +kernel
  rw [e1, e2]
  clear e1 e2
  go_wp2_with fail
  refine (show Calls _ _ _ _ _ from (balance_any [-5, 5, 0, 0, 0] rfl 0 _)).mono ?_
  rintro e w2 ⟨rfl, hb2⟩
  rw [if_pos (by decide)]
  obtain ⟨hc2, hf2⟩ := bcell hb2
  go_wp2_with fail
  refine (show Calls _ _ _ _ _ from (balance_any [-5, 5, 0, 0, 0] rfl 1 _)).mono ?_
  rintro e w3 ⟨rfl, hb3⟩
  rw [if_pos (by decide)]
  go_wp2_with fail
  go_ret
  refine ⟨by simp, ?_⟩
  have h1 := hb1.size
  have h2 := hb2.size
  have h3 := hb3.size
  simp at h1 h2 h3
  exact ((hb1.alloc hb1.size _).trans (below_le hb2 (by simp; omega))).trans (below_le hb3 (by omega))

end Go.Proofs.Yteeiiahmhmbepaa.Led
