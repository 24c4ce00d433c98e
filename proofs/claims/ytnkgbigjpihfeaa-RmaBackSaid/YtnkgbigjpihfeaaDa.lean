/- Commands: what is put, one behind the other; the plain law. -/
import Derived.Test.YtnkgbigjpihfeaaKu
import Derived.Test.YtnkgbigjpihfeaaMa
set_option linter.unusedVariables false
set_option linter.unusedSimpArgs false
namespace Go.Proofs.Ytnkgbigjpihfeaa.Kd
open Go.RowKit Go.Proofs.Ytnkgbigjpihfeaa.Lib

/-- What is put so far. -/
def st (ps : List (Int × Nat)) : List Int × Bool := ps.foldl (fun s p => smallL s.1 s.2 p.1 p.2) ([], false)
theorem st_snoc (ps : List (Int × Nat)) (x : Int) (k : Nat) : st (ps ++ [(x, k)]) = smallL (st ps).1 (st ps).2 x k := by simp [st, List.foldl_append]
def goodP (p : Int × Nat) : Bool := decide (0 ≤ p.1 ∧ p.1 < 256 ^ p.2)
def catP (ps : List (Int × Nat)) : List Int := ps.flatMap fun p => leB p.1 p.2

theorem fold_true (ps : List (Int × Nat)) (l : List Int) : (ps.foldl (fun s p => smallL s.1 s.2 p.1 p.2) (l, true)).2 = true := by
  induction ps generalizing l with
  | nil => rfl
  | cons p ps ih =>
    rw [List.foldl_cons]
    rw [show smallL (l, true).1 (l, true).2 p.1 p.2 = (l, true) from by simp [smallL]]
    exact ih l
theorem fold_good (ps : List (Int × Nat)) (l : List Int) (h : ps.all goodP = true) : ps.foldl (fun s p => smallL s.1 s.2 p.1 p.2) (l, false) = (l ++ catP ps, false) := by
  induction ps generalizing l with
  | nil => simp [catP]
  | cons p ps ih =>
    simp only [List.all_cons, Bool.and_eq_true] at h
    obtain ⟨h1, h2⟩ := h
    have h1 := of_decide_eq_true h1
    rw [List.foldl_cons, smallL_good h1.1 h1.2, ih _ h2]
    simp [catP]
theorem fold_bad (ps : List (Int × Nat)) (l : List Int) (h : ps.all goodP = false) : (ps.foldl (fun s p => smallL s.1 s.2 p.1 p.2) (l, false)).2 = true := by
  induction ps generalizing l with
  | nil => cases h
  | cons p ps ih =>
    rw [List.foldl_cons]
    cases hp : goodP p
    · have hb := of_decide_eq_false hp
      have : smallL (l, false).1 (l, false).2 p.1 p.2 = (l, true) := by
        unfold smallL
        rw [if_neg (by simp), if_pos (by omega)]
      rw [this]
      exact fold_true ps l
    · rw [List.all_cons, hp, Bool.true_and] at h
      have h1 := of_decide_eq_true hp
      rw [smallL_good h1.1 h1.2]
      exact ih _ h
theorem st_good {ps : List (Int × Nat)} (h : ps.all goodP = true) : st ps = (catP ps, false) := by
  have := fold_good ps [] h
  simpa [st] using this
theorem st_bad {ps : List (Int × Nat)} (h : ps.all goodP = false) : (st ps).2 = true := fold_bad ps [] h
theorem st_len' (ps : List (Int × Nat)) (s : List Int × Bool) (hp : ∀ p ∈ ps, p.2 ≤ 8) : (ps.foldl (fun s p => smallL s.1 s.2 p.1 p.2) s).1.length ≤ s.1.length + 8 * ps.length := by
  induction ps generalizing s with
  | nil => simp
  | cons p ps ih =>
    rw [List.foldl_cons]
    have h1 := smallL_len s.1 s.2 p.1 p.2
    have h2 := hp p List.mem_cons_self
    have h3 := ih (smallL s.1 s.2 p.1 p.2) (fun q hq => hp q (List.mem_cons_of_mem _ hq))
    simp only [List.length_cons]
    omega
theorem st_len (ps : List (Int × Nat)) (hp : ∀ p ∈ ps, p.2 ≤ 8) : (st ps).1.length ≤ 8 * ps.length := by
  have := st_len' ps ([], false) hp
  simpa [st] using this

/-- The writer's box, so much put. -/
def OutS (w : World) (O : Nat) (v : Value) (ps : List (Int × Nat)) : Prop := OutAt w O v (st ps).1 (st ps).2
/-- What a put leaves. -/
def putS (w : World) (O : Nat) (v : Value) (ps : List (Int × Nat)) (e : Ending) (w' : World) : Prop := e = .returned (.tuple #[]) ∧ ∃ v', OutS w' O v' ps ∧ Put w O v w' v'

/-- No item is longer than eight bytes, and there are few. -/
def fewP (ps : List (Int × Nat)) : Prop := (∀ p ∈ ps, p.2 ≤ 8) ∧ ps.length ≤ 100000
theorem fewP.snoc {ps : List (Int × Nat)} {x : Int} {k : Nat} (h : fewP ps) (hk : k ≤ 8) (hl : ps.length < 100000) : fewP (ps ++ [(x, k)]) := ⟨fun p hp => by
  rcases List.mem_append.1 hp with e | e
  · exact h.1 p e
  · rw [List.mem_singleton.1 e]
    exact hk, by simp; omega⟩
theorem fewP.len {ps : List (Int × Nat)} (h : fewP ps) : (st ps).1.length ≤ 1000000 := by have := st_len ps h.1; have := h.2; omega

theorem u8_st {w : World} {O : Nat} {v : Value} {ps : List (Int × Nat)} (h : OutS w O v ps) (x : Int) (hx : x < 9223372036854775808) (hp : fewP ps) : Calls Try.prog 62 #[.pointer (some ⟨O, 0, none⟩), .int .i64 x] w fun e w' => putS w O v (ps ++ [(x, 1)]) e w' := by
  have := u8_s h x hx hp.len
  rw [← st_snoc] at this
  exact this
theorem u16_st {w : World} {O : Nat} {v : Value} {ps : List (Int × Nat)} (h : OutS w O v ps) (x : Int) (hx : x < 9223372036854775808) (hp : fewP ps) : Calls Try.prog 58 #[.pointer (some ⟨O, 0, none⟩), .int .i64 x] w fun e w' => putS w O v (ps ++ [(x, 2)]) e w' := by
  have := u16_s h x hx hp.len
  rw [← st_snoc] at this
  exact this
theorem u32_st {w : World} {O : Nat} {v : Value} {ps : List (Int × Nat)} (h : OutS w O v ps) (x : Int) (hx : x < 9223372036854775808) (hp : fewP ps) : Calls Try.prog 63 #[.pointer (some ⟨O, 0, none⟩), .int .i64 x] w fun e w' => putS w O v (ps ++ [(x, 4)]) e w' := by
  have := u32_s h x hx hp.len
  rw [← st_snoc] at this
  exact this
/-- A flag's number. -/
def fl (b : Bool) : Int := if b = true then 1 else 0
theorem flag_st {w : World} {O : Nat} {v : Value} {ps : List (Int × Nat)} (h : OutS w O v ps) (b : Bool) (hp : fewP ps) : Calls Try.prog 65 #[.pointer (some ⟨O, 0, none⟩), .bool b] w fun e w' => putS w O v (ps ++ [(fl b, 1)]) e w' := by
  have := flag_s h b hp.len
  rw [show (if b = true then (1 : Int) else 0) = fl b from rfl, ← st_snoc] at this
  exact this

/-- What End gives. -/
def endQ (w : World) (ps : List (Int × Nat)) (e : Ending) (w' : World) : Prop :=
  (ps.all goodP = true ∧ endS w (catP ps) e w') ∨ (ps.all goodP = false ∧ e = .returned (.tuple #[.slice none 0 0, .int .i64 2]) ∧ w' = w)
theorem end_st {w : World} {O : Nat} {v : Value} {ps : List (Int × Nat)} (h : OutS w O v ps) (hp : fewP ps) : Calls Try.prog 28 #[.pointer (some ⟨O, 0, none⟩)] w fun e w' => endQ w ps e w' := by
  cases hg : ps.all goodP
  · have hb := st_bad hg
    unfold OutS at h
    rw [hb] at h
    exact (end_bad h).mono fun e w' hh => Or.inr ⟨hg, hh.1, hh.2⟩
  · unfold OutS at h
    have hl := hp.len
    rw [st_good hg] at h hl
    exact (end_s h (by omega)).mono fun e w' hh => Or.inl ⟨hg, hh⟩

/-- A command's items. -/
def wrP (k o r w m u g d q : Int) (b y : Bool) (n : Nat) (F : Nat → Int) : List (Int × Nat) :=
  if k = 1 then [(k, 1), (o, 1), ((n : Int), 1)] ++ (List.range n).map (fun j => (F j, 1)) ++ [(r, 1), (w, 2), (fl b, 1)]
  else if k = 2 ∨ k = 3 ∨ k = 4 ∨ k = 5 then [(k, 1), (m, 2)]
  else if k = 6 then [(k, 1), (m, 2), (u, 1), (g, 1)]
  else if k = 7 then [(k, 1), (d, 2)]
  else if k = 8 then [(k, 1), (q, 4), (fl y, 1)]
  else [(-1, 1)]

/-- What write gives. -/
def wrPost (ps : List (Int × Nat)) (w : World) (e : Ending) (w' : World) : Prop :=
  (ps.all goodP = true ∧ endS w (catP ps) e w') ∨ (ps.all goodP = false ∧ ∃ z : Int, z ≠ 0 ∧ e = .returned (.tuple #[.slice none 0 0, .int .i64 z]) ∧ Below w.heap.size w w')

/-- What a command's kind needs. -/
def needB (k o r w m u g d q : Int) (b y : Bool) (n : Nat) : Bool :=
  if k = 1 then m == 0 && u == 0 && g == 0 && d == 0 && q == 0 && !y
  else o == 0 && n == 0 && r == 0 && w == 0 && !b &&
    (if k = 2 ∨ k = 3 ∨ k = 4 ∨ k = 5 then u == 0 && g == 0 && d == 0 && q == 0 && !y
     else if k = 6 then d == 0 && q == 0 && !y
     else if k = 7 then m == 0 && u == 0 && g == 0 && q == 0 && !y
     else if k = 8 then m == 0 && u == 0 && g == 0 && d == 0
     else m == 0 && u == 0 && g == 0 && d == 0 && q == 0 && !y)

/-- Is a command formed? -/
def formB (k o r w m u g d q : Int) (b y : Bool) (n : Nat) (F : Nat → Int) : Bool :=
  !(decide (k = 1 ∧ (n < 1 ∨ 60 < n))) && needB k o r w m u g d q b y n && (wrP k o r w m u g d q b y n F).all goodP

end Go.Proofs.Ytnkgbigjpihfeaa.Kd
