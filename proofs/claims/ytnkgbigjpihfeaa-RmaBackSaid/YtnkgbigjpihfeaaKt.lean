/- Items: lists that came in; few, put, bytes. -/
import Derived.Test.YtnkgbigjpihfeaaKw
import Derived.SizedLaws
set_option linter.unusedVariables false
set_option linter.unusedSimpArgs false
namespace Go.Proofs.Ytnkgbigjpihfeaa.Kd
open Go.RowKit Go.Proofs.Ytnkgbigjpihfeaa.Lib

/-- An item. -/
structure It where
  k : Int
  v : Int
  l : Int
  f : Bool
  a : Option Addr
  n : Nat
  c : Nat
  F : Nat → Int

structure ItOk (w : World) (t : It) : Prop where
  k0 : 0 ≤ t.k
  k1 : t.k < 256
  v0 : -9223372036854775808 ≤ t.v
  v1 : t.v < 9223372036854775808
  l0 : -9223372036854775808 ≤ t.l
  l1 : t.l < 9223372036854775808
  ints : IntsAt w .u8 t.a t.n t.F
  nil : t.a = none → t.n = 0 ∧ t.c = 0
  room : t.n ≤ t.c
  most : t.c ≤ maxLen
  wf : ∀ j, j < t.n → 0 ≤ t.F j ∧ t.F j < 256
  reach : t.n ≤ 140737488351232

def ItemsAt (w : World) (a : Option Addr) (len : Nat) (T : Nat → It) : Prop :=
  len ≤ 9223372036854775807 ∧ (0 < len → ∃ b off, a = some ⟨b, off, none⟩ ∧ b < w.heap.size ∧ ∀ j, j < len → w.cell? ⟨b, off + j * 5, none⟩ = some (.int .u8 (T j).k) ∧ w.cell? ⟨b, off + j * 5 + 1, none⟩ = some (.int .i64 (T j).v) ∧ w.cell? ⟨b, off + j * 5 + 2, none⟩ = some (.int .i64 (T j).l) ∧ w.cell? ⟨b, off + j * 5 + 3, none⟩ = some (.bool (T j).f) ∧ w.cell? ⟨b, off + j * 5 + 4, none⟩ = some (.slice (T j).a (T j).n (T j).c)) ∧ ∀ j, j < len → ItOk w (T j)

theorem ItOk.below {w w1 : World} {t : It} (h : ItOk w t) (hb : Below w.heap.size w w1) : ItOk w1 t :=
  ⟨h.k0, h.k1, h.v0, h.v1, h.l0, h.l1, h.ints.below hb, h.nil, h.room, h.most, h.wf, h.reach⟩
theorem ItemsAt.below {w w1 : World} {a : Option Addr} {len : Nat} {T : Nat → It} (h : ItemsAt w a len T) (hb : Below w.heap.size w w1) : ItemsAt w1 a len T := by
  refine ⟨h.1, fun hp => ?_, fun j hj => (h.2.2 j hj).below hb⟩
  obtain ⟨b, off, e, hlt, hc⟩ := h.2.1 hp
  refine ⟨b, off, e, Nat.lt_of_lt_of_le hlt hb.size, fun j hj => ?_⟩
  obtain ⟨h1, h2, h3, h4, h5⟩ := hc j hj
  exact ⟨(hb.cell (p := ⟨b, off + j * 5, none⟩) hlt).trans h1, (hb.cell (p := ⟨b, off + j * 5 + 1, none⟩) hlt).trans h2, (hb.cell (p := ⟨b, off + j * 5 + 2, none⟩) hlt).trans h3, (hb.cell (p := ⟨b, off + j * 5 + 3, none⟩) hlt).trans h4, (hb.cell (p := ⟨b, off + j * 5 + 4, none⟩) hlt).trans h5⟩

theorem wf_u8 {z : Int} (h : (Lit.int .u8 z).wf = true) : 0 ≤ z ∧ z < 256 := by
  simp [Lit.wf, IntKind.min, IntKind.max, IntKind.signed, IntKind.bits] at h
  omega
theorem wf_i64 {z : Int} (h : (Lit.int .i64 z).wf = true) : -9223372036854775808 ≤ z ∧ z < 9223372036854775808 := by
  simp [Lit.wf, IntKind.min, IntKind.max, IntKind.signed, IntKind.bits] at h
  omega

section
variable {H : Type} {enc : TypeId × Value → H} {w : World} {base : Nat} {spare : Nat → Bool} {held : Bool}
theorem weightsAll_mem {H : Type} {P : Program} {e : TypeId} : ∀ {l : List (DataW H)} {d : DataW H}, d ∈ l → ∀ n ∈ d.weights P e, n ∈ DataW.weightsAll P e l
  | d' :: r, d, hd, n, hn => by
    simp only [DataW.weightsAll, List.mem_append]
    rcases List.mem_cons.1 hd with rfl | hd
    · exact Or.inl hn
    · exact Or.inr (weightsAll_mem hd n hn)

/-- A slice of structs opened, with what its elements weigh. -/
theorem slice_w {P : Program} {t e : TypeId} {v : Value} {n sz : Nat} {d : DataW H} {pl : List MemPlace} (h : DataW.Trod enc P w base spare held t v d pl) (hv : v.cells.toList = [v]) (ht : P.underlying t = some (.slice e)) (hok : leavesOk P n e = true) (hsz : P.cellsOf e = sz) (hpos : 0 < sz)
    (hz : ∀ k ∈ d.weights P t, k ≤ reachBytes) :
    ∃ (a : Option Addr) (len cap : Nat), v = .slice a len cap ∧ len ≤ cap ∧ cap ≤ maxLen ∧ (a = none → len = 0 ∧ cap = 0) ∧
      (0 < len → ∃ (b off : Nat) (f : Nat → List Value), a = some ⟨b, off, none⟩ ∧ b < w.heap.size ∧ ∀ i, i < len → (f i).length = sz ∧ (∀ j, j < sz → w.cell? ⟨b, off + (i * sz + j), none⟩ = (f i)[j]?) ∧ All2 (Leaf enc P w base spare held) (leaves P n e) (f i) ∧
        ∃ m' d' pl', DataW.trod enc P w base spare held m' e (f i) = some (d', pl') ∧ ∀ k ∈ d'.weights P e, k ≤ reachBytes) := by
  obtain ⟨m, h⟩ := h
  rw [hv] at h
  rcases Deep.open_slice ht h with ⟨hcs, _⟩ | ⟨a, len, cap, m', n', D, Pl, hcs, hb, hl, hm, hmm, hxx, hx⟩
  · simp at hcs
    subst hcs
    exact ⟨none, 0, 0, rfl, Nat.le_refl _, Nat.zero_le _, fun _ => ⟨rfl, rfl⟩, fun h => absurd h (Nat.lt_irrefl _)⟩
  · simp at hcs
    subst hcs
    have hd : d = .slice ((List.range len).map D) ((List.range (m' - len)).map fun j => D (len + j)) := congrArg Prod.fst hxx
    refine ⟨some a, len, cap, rfl, hl, hm, fun h => by simp at h, fun hp => ?_⟩
    have hle : len ≤ m' := by rw [hmm]; split <;> omega
    obtain ⟨f, hf⟩ := Deep.choose_lt (n := len) (p := fun i cs' => w.cells? base (a.add (i * P.cellsOf e)) (P.cellsOf e) = some cs' ∧ DataW.trod enc P w base spare held n' e cs' = some (D i, Pl i)) (fun i hi => hx i (by omega))
    have hz0 : w.cell? a = (f 0)[0]? := by
      have := (World.cells?_some (hf 0 hp).1).2.2 0 (by omega)
      simpa [Addr.add] using this
    have hz' : (f 0)[0]? = some ((f 0)[0]'(by have := (World.cells?_some (hf 0 hp).1).2.1; omega)) := by simp
    rw [hz'] at hz0
    obtain ⟨b, off, spot⟩ := a
    have hspot : spot = none := World.cell?_spot hz0
    subst hspot
    refine ⟨b, off, f, rfl, World.block_lt_of_cell? w _ hz0, fun i hi => ?_⟩
    obtain ⟨h1, h2⟩ := hf i hi
    obtain ⟨_, h3, h4⟩ := World.cells?_some h1
    refine ⟨by omega, fun j hj => ?_, leaves_trod n n' e _ _ hok h2, n', D i, Pl i, h2, fun k hk => hz k ?_⟩
    · have := h4 j (by omega)
      rw [hsz] at this
      rw [← this, Deep.add_add, ← Go.WideShapes.add_plain]
    · rw [hd]
      simp only [DataW.weights, ht, List.mem_cons, List.mem_append]
      exact Or.inr (Or.inl (weightsAll_mem (List.mem_map.2 ⟨i, List.mem_range.2 hi, rfl⟩) k hk))

set_option maxRecDepth 100000 in
theorem item_len {n' : Nat} {d' : DataW H} {pl' : List MemPlace} {x0 x1 x2 x3 : Value} {a : Option Addr} {n c : Nat} (h : DataW.trod enc Try.prog w base spare held n' 33 [x0, x1, x2, x3, .slice a n c] = some (d', pl')) (hz : ∀ k ∈ d'.weights Try.prog 33, k ≤ reachBytes) : n ≤ 140737488351232 := by
  obtain ⟨xs, m, _, hx, _, hxl, hf⟩ := DataW.trod_struct Try.underlying33 h
  have h4 : DataW.trod enc Try.prog w base spare held m 22 (([x0, x1, x2, x3, Value.slice a n c].drop 4).take (Try.prog.cellsOf 22)) = xs[4]? := hf 4 _ rfl
  have hc : Try.prog.cellsOf 22 = 1 := by kernel_rfl
  rw [hc] at h4
  replace h4 : DataW.trod enc Try.prog w base spare held m 22 [Value.slice a n c] = xs[4]? := h4
  have hl4 : 4 < xs.length := by rw [hxl]; decide
  have hxs : xs[4]? = some (xs[4]'hl4) := by simp
  rw [hxs] at h4
  rcases Deep.open_slice Try.underlying22 h4 with ⟨hcs, _⟩ | ⟨a', len, cap, m', n'', D, Pl, hcs, hb, hl, hm, hmm, hxx, _⟩
  · simp at hcs
    omega
  · simp at hcs
    obtain ⟨rfl, rfl, rfl⟩ := hcs
    have hd : d' = .agg (xs.map (·.1)) := congrArg Prod.fst hx
    have hw := hz ((n + (m' - n)) * Try.prog.bytesOf 5) (by
      rw [hd]
      simp only [DataW.weights, Try.underlying33]
      refine DataW.weights_mem_each (j := 4) (t := 22) (d := (xs[4]'hl4).1) rfl (by simp [hxs]) _ ?_
      rw [hxx]
      simp [DataW.weights, Try.underlying22])
    have hb5 : Try.prog.bytesOf 5 = 1 := by kernel_rfl
    rw [hb5] at hw
    have : reachBytes = 140737488351232 := rfl
    omega

theorem open_items {v : Value} {d : DataW H} {p : List MemPlace} {r : Reach} {b0 : Nat} (hv : Value.okWide Try.prog w r b0 31 v) (h : DataW.Trod enc Try.prog w base spare held 31 v d p) (hz : ∀ k ∈ d.weights Try.prog 31, k ≤ reachBytes) :
    ∃ (a : Option Addr) (len cap : Nat) (T : Nat → It), v = .slice a len cap ∧ ItemsAt w a len T := by
  obtain ⟨a, len, cap, rfl⟩ := Go.WideShapes.okWide_slice Try.underlying31 hv
  obtain ⟨a', len', cap', e, h1, h2, h3, h4⟩ := slice_w (n := 3) (sz := 5) h rfl Try.underlying31 (by kernel_rfl) (by kernel_rfl) (by omega) hz
  obtain ⟨rfl, rfl, rfl⟩ := Value.slice.inj e
  have hm : len ≤ 9223372036854775807 := by unfold maxLen at h2; omega
  by_cases hp : 0 < len
  · obtain ⟨b, off, f, rfl, hb, hf⟩ := h4 hp
    have hT : ∀ i, i < len → ∃ t : It, f i = [.int .u8 t.k, .int .i64 t.v, .int .i64 t.l, .bool t.f, .slice t.a t.n t.c] ∧ ItOk w t := fun i hi => by
      obtain ⟨_, _, g3, m', d', pl', g9, g10⟩ := hf i hi
      rw [show leaves Try.prog 3 33 = [5, 3, 2, 4, 22] from by kernel_rfl] at g3
      obtain ⟨x, r, e1, q1, g4⟩ := g3.cons
      obtain ⟨x2, r2, e2, q2, g5⟩ := g4.cons
      obtain ⟨x3, r3, e3, q3, g6⟩ := g5.cons
      obtain ⟨x4, r4, e4, q4, g7⟩ := g6.cons
      obtain ⟨x5, r5, e5, q5, g8⟩ := g7.cons
      have e6 := g8.nil
      subst e6 e5 e4 e3 e2
      obtain ⟨z, rfl, wz⟩ := q1.int Try.underlying5
      obtain ⟨z2, rfl, wz2⟩ := q2.int Try.underlying3
      obtain ⟨z3, rfl, wz3⟩ := q3.int Try.underlying2
      obtain ⟨z4, rfl⟩ := q4.bool Try.underlying4
      obtain ⟨a5, n5, c5, F5, rfl, hnc, hcm, hnil, hi5, hw5⟩ := open_ints_leaf q5 Try.underlying22 Try.underlying5 (by kernel_rfl)
      rw [e1] at g9
      exact ⟨⟨z, z2, z3, z4, a5, n5, c5, F5⟩, e1, (wf_u8 wz).1, (wf_u8 wz).2, (wf_i64 wz2).1, (wf_i64 wz2).2, (wf_i64 wz3).1, (wf_i64 wz3).2, hi5, hnil, hnc, hcm, fun j hj => wf_u8 (hw5 j hj), item_len g9 g10⟩
    obtain ⟨T, hT'⟩ : ∃ T : Nat → It, ∀ i, i < len → f i = [.int .u8 (T i).k, .int .i64 (T i).v, .int .i64 (T i).l, .bool (T i).f, .slice (T i).a (T i).n (T i).c] ∧ ItOk w (T i) := by
      refine ⟨fun i => if hi : i < len then (hT i hi).choose else ⟨0, 0, 0, false, none, 0, 0, fun _ => 0⟩, fun i hi => ?_⟩
      simp only [dif_pos hi]
      exact (hT i hi).choose_spec
    refine ⟨_, len, cap, T, rfl, ⟨hm, fun _ => ⟨b, off, rfl, hb, fun j hj => ?_⟩, fun j hj => (hT' j hj).2⟩⟩
    have g := (hf j hj).2.1
    rw [(hT' j hj).1] at g
    exact ⟨by simpa using g 0 (by omega), by simpa [Nat.add_assoc] using g 1 (by omega), by simpa [Nat.add_assoc] using g 2 (by omega), by simpa [Nat.add_assoc] using g 3 (by omega), by simpa [Nat.add_assoc] using g 4 (by omega)⟩
  · exact ⟨a, len, cap, fun _ => ⟨0, 0, 0, false, none, 0, 0, fun _ => 0⟩, rfl, ⟨hm, fun h => absurd h hp, fun j hj => absurd hj (by omega)⟩⟩
end

/-- How many bytes the first k items' lists have. -/
def sumN (T : Nat → It) : Nat → Nat
  | 0 => 0
  | k + 1 => sumN T k + (T k).n

/-- What few answers. -/
def fewPost (T : Nat → It) (n : Nat) (w : World) (e : Ending) (w' : World) : Prop := w' = w ∧ ∃ b, e = .returned (.bool b) ∧ (b = true → n ≤ 60 ∧ ∀ k, k ≤ n → sumN T k ≤ 200000)

set_option maxRecDepth 100000 in
theorem few_any {w : World} {a : Option Addr} {n c : Nat} {T : Nat → It} (h : ItemsAt w a n T) :
    Calls Try.prog 25 #[.slice a n c] w fun e w' => fewPost T n w e w' := by
  have H := Lib.hid h
  have hbig := h.1
  clear h
  go_enter Try.func25, Try.ntmps25
  go_wp2_with fail
  go_loopw [3, 7] (fun v i wr => ∃ k : Nat, k ≤ n ∧ i = .int .i64 k ∧ v = .int .i64 (sumN T k) ∧ Hid (k ≤ 60 ∧ ∀ j, j ≤ k → sumN T j ≤ 200000) ∧ wr = w) (fun _ i _ => n - (intOf i).toNat)
  case atStart => exact ⟨0, Nat.zero_le _, rfl, rfl, Lib.hid ⟨by omega, fun j hj => by
    obtain rfl : j = 0 := by omega
    simp [sumN]⟩, rfl⟩
  case round =>
    obtain ⟨k, hk, rfl, rfl, hs, rfl⟩ := hrel
    by_cases hlt : k < n
    · obtain ⟨b, o, rfl, hb, hc⟩ := H.out.2.1 (by omega)
      have c4 := (hc k hlt).2.2.2.2
      have hsk := hs.out.2 k (Nat.le_refl _)
      have hnk := (H.out.2.2 k hlt).room
      have hck := (H.out.2.2 k hlt).reach
      have hkn : (k : Int) < n := by omega
      have hsum : sumN T (k + 1) = sumN T k + (T k).n := rfl
      have hw : wrap64 ((sumN T k : Int) + (T k).n) = (sumN T k : Int) + (T k).n := by unfold wrap64; omega
      have hsc : ((sumN T (k + 1) : Nat) : Int) = (sumN T k : Int) + (T k).n := by rw [hsum]; omega
      replace hs := Lib.hid hs.out
      replace hsum := Lib.hid hsum
      clear hc
      by_cases h60 : 60 ≤ k
      · have h60' : (60 : Int) ≤ k := by omega
        go_wp2_with fail
        go_ret
        exact ⟨rfl, false, by simp, fun h => by cases h⟩
      · have h60' : ¬ (60 : Int) ≤ k := by omega
        by_cases hbig2 : 200000 < sumN T k + (T k).n
        · have hbig3 : (200000 : Int) < (sumN T k : Int) + (T k).n := by omega
          go_wp2_with fail
          go_ret
          exact ⟨rfl, false, by simp, fun h => by cases h⟩
        · have hbig3 : ¬ (200000 : Int) < (sumN T k : Int) + (T k).n := by omega
          go_wp2_with fail
          refine ⟨⟨k + 1, by omega, by go_num, by rw [hsc], Lib.hid ⟨by omega, fun j hj => ?_⟩, by trivial⟩, by simp [intOf]; omega⟩
          by_cases hjk : j = k + 1
          · rw [hjk, hsum.out]; omega
          · exact hs.out.2 j (by omega)
    · obtain rfl : k = n := by omega
      have hlt' : ¬ (k : Int) < k := by omega
      go_wp2_with fail
      go_ret
      exact ⟨rfl, true, by simp, fun _ => hs.out⟩

def itV (t : It) : Value := .agg #[.int .u8 t.k, .int .i64 t.v, .int .i64 t.l, .bool t.f, .slice t.a t.n t.c]

/-- What a put item makes of the bytes. -/
def putL (l : List Int) (bad : Bool) (t : It) : List Int × Bool :=
  if t.k = 0 then smallL l bad t.v 1 else if t.k = 1 then smallL l bad t.v 2 else if t.k = 2 then smallL l bad t.v 4 else
  if t.k = 3 then (if bad = true then l else l ++ leB (t.l % 18446744073709551616) 8, bad) else
  if t.k = 4 then smallL l bad (if t.f = true then 1 else 0) 1 else
  if t.k = 5 then (bytesL l bad t.n t.F, (smallL l bad t.n 2).2) else (if bad = true then l else l ++ lof t.n t.F, bad)

theorem Put.of_below {w w' : World} {O : Nat} {v : Value} (h : Below w.heap.size w w') : Put w O v w' v := ⟨h.os, h.tape, h.output, h.size, fun k hk _ _ => h.block k hk, fun _ e => Or.inl e⟩

set_option maxRecDepth 100000 in
theorem put_s {w : World} {O : Nat} {v0 : Value} {l : List Int} {bad : Bool} (h : OutAt w O v0 l bad) {t : It} (ht : ItOk w t) (hO : 0 < t.n → ∀ p, t.a = some p → p.block < O) (hl : l.length ≤ 999990) (hn : t.n ≤ 1000000) :
    Calls Try.prog 26 #[.pointer (some ⟨O, 0, none⟩), itV t] w fun e w' => putPost w O v0 (putL l bad t).1 (putL l bad t).2 e w' := by
  have hb := (Below.refl w.heap.size w).alloc (Nat.le_refl _) (.cells #[.int .u8 t.k, .int .i64 t.v, .int .i64 t.l, .bool t.f, .slice t.a t.n t.c] 33)
  have hP : Hid (Put w O v0 _ v0) := Lib.hid (Put.of_below hb)
  replace h := h.keep hb
  replace ht := ht.below hb
  clear hb
  have H62 := Lib.hid (u8_s h t.v (by have := ht.v1; omega) (by omega))
  have H58 := Lib.hid (u16_s h t.v (by have := ht.v1; omega) (by omega))
  have H63 := Lib.hid (u32_s h t.v (by have := ht.v1; omega) (by omega))
  have H64 := i64_s h t.l (by omega)
  have H65 := Lib.hid (flag_s h t.f (by omega))
  have H66 := Lib.hid (bytes_s (c := t.c) h ht.ints ht.nil hO hl hn)
  have H67 := plain_s (c := t.c) h ht.ints ht.nil (by omega) hn
  generalize h64 : (if bad = true then l else l ++ leB (t.l % 18446744073709551616) 8) = B64 at H64
  generalize h67 : (if bad = true then l else l ++ lof t.n t.F) = B67 at H67
  replace H64 := Lib.hid H64
  replace H67 := Lib.hid H67
  replace h64 := Lib.hid h64
  replace h67 := Lib.hid h67
  have k0 := ht.k0
  have k1 := ht.k1
  clear h ht hO
  obtain ⟨k, v, lv, f, a, n, c, F⟩ := t
  simp only at *
  unfold itV
  simp only
  by_cases e0 : k = 0
  · subst e0
    rw [show putL l bad ⟨0, v, lv, f, a, n, c, F⟩ = smallL l bad v 1 from by simp [putL]]
    go_enter Try.func26, Try.ntmps26
    go_wp2_with fail
    refine H62.out.mono ?_
    rintro e w1 ⟨rfl, v1, h1, h2⟩
    have h1 := Lib.hid h1
    have h2 := Lib.hid h2
    go_wp2_with fail
    go_end0
    exact ⟨rfl, v1, h1.out, hP.out.trans h2.out⟩
  by_cases e1 : k = 1
  · subst e1
    rw [show putL l bad ⟨1, v, lv, f, a, n, c, F⟩ = smallL l bad v 2 from by simp [putL]]
    go_enter Try.func26, Try.ntmps26
    go_wp2_with fail
    refine H58.out.mono ?_
    rintro e w1 ⟨rfl, v1, h1, h2⟩
    have h1 := Lib.hid h1
    have h2 := Lib.hid h2
    go_wp2_with fail
    go_end0
    exact ⟨rfl, v1, h1.out, hP.out.trans h2.out⟩
  by_cases e2 : k = 2
  · subst e2
    rw [show putL l bad ⟨2, v, lv, f, a, n, c, F⟩ = smallL l bad v 4 from by simp [putL]]
    go_enter Try.func26, Try.ntmps26
    go_wp2_with fail
    refine H63.out.mono ?_
    rintro e w1 ⟨rfl, v1, h1, h2⟩
    have h1 := Lib.hid h1
    have h2 := Lib.hid h2
    go_wp2_with fail
    go_end0
    exact ⟨rfl, v1, h1.out, hP.out.trans h2.out⟩
  by_cases e3 : k = 3
  · subst e3
    rw [show putL l bad ⟨3, v, lv, f, a, n, c, F⟩ = (B64, bad) from by simp [putL, ← h64.out]]
    go_enter Try.func26, Try.ntmps26
    go_wp2_with fail
    refine H64.out.mono ?_
    rintro e w1 ⟨rfl, v1, h1, h2⟩
    have h1 := Lib.hid h1
    have h2 := Lib.hid h2
    go_wp2_with fail
    go_end0
    exact ⟨rfl, v1, h1.out, hP.out.trans h2.out⟩
  by_cases e4 : k = 4
  · subst e4
    rw [show putL l bad ⟨4, v, lv, f, a, n, c, F⟩ = smallL l bad (if f = true then 1 else 0) 1 from by simp [putL]]
    generalize hX : (if f = true then (1 : Int) else 0) = X at H65 ⊢
    replace hX := Lib.hid hX
    go_enter Try.func26, Try.ntmps26
    go_wp2_with fail
    refine H65.out.mono ?_
    rintro e w1 ⟨rfl, v1, h1, h2⟩
    have h1 := Lib.hid h1
    have h2 := Lib.hid h2
    go_wp2_with fail
    go_end0
    exact ⟨rfl, v1, h1.out, hP.out.trans h2.out⟩
  by_cases e5 : k = 5
  · subst e5
    rw [show putL l bad ⟨5, v, lv, f, a, n, c, F⟩ = (bytesL l bad n F, (smallL l bad n 2).2) from by simp [putL]]
    go_enter Try.func26, Try.ntmps26
    go_wp2_with fail
    refine H66.out.mono ?_
    rintro e w1 ⟨rfl, v1, h1, h2⟩
    have h1 := Lib.hid h1
    have h2 := Lib.hid h2
    go_wp2_with fail
    go_end0
    exact ⟨rfl, v1, h1.out, hP.out.trans h2.out⟩
  rw [show putL l bad ⟨k, v, lv, f, a, n, c, F⟩ = (B67, bad) from by simp [putL, e0, e1, e2, e3, e4, e5, ← h67.out]]
  go_enter Try.func26, Try.ntmps26
  go_wp2_with fail
  refine H67.out.mono ?_
  rintro e w1 ⟨rfl, v1, h1, h2⟩
  have h1 := Lib.hid h1
  have h2 := Lib.hid h2
  go_wp2_with fail
  go_end0
  exact ⟨rfl, v1, h1.out, hP.out.trans h2.out⟩

end Go.Proofs.Ytnkgbigjpihfeaa.Kd
