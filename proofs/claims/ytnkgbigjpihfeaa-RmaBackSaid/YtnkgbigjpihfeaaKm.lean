/- The codec's writer, whole: what each put leaves. -/
import Derived.Test.YtnkgbigjpihfeaaKi
import Derived.Maps.AppendAt
import Derived.Laws.AppendOwnNone
set_option linter.unusedVariables false
set_option linter.unusedSimpArgs false
namespace Go.Proofs.Ytnkgbigjpihfeaa.Kd
open Go.RowKit Go.Proofs.Ytnkgbigjpihfeaa.Lib

/-- What a put may change. -/
structure Put (w : World) (O : Nat) (v : Value) (w' : World) (v' : Value) : Prop where
  os : w'.os = w.os
  tape : w'.tape = w.tape
  output : w'.output = w.output
  size : w.heap.size ≤ w'.heap.size
  only : ∀ k, k < w.heap.size → k ≠ O → some k ≠ v.ownBlock → w'.heap[k]? = w.heap[k]?
  own : ∀ g, v'.ownBlock = some g → v.ownBlock = some g ∨ w.heap.size ≤ g

theorem Put.refl (w : World) (O : Nat) (v : Value) : Put w O v w v := ⟨rfl, rfl, rfl, Nat.le_refl _, fun _ _ _ _ => rfl, fun _ h => Or.inl h⟩
theorem Put.trans {w w1 w2 : World} {O : Nat} {v v1 v2 : Value} (h : Put w O v w1 v1) (k : Put w1 O v1 w2 v2) : Put w O v w2 v2 :=
  ⟨k.os.trans h.os, k.tape.trans h.tape, k.output.trans h.output, Nat.le_trans h.size k.size, fun i hi hO hv => by
    refine (k.only i (Nat.lt_of_lt_of_le hi h.size) hO (fun e => ?_)).trans (h.only i hi hO hv)
    rcases h.own i e.symm with e1 | e1
    · exact hv e1.symm
    · omega, fun g e => by
    rcases k.own g e with e1 | e1
    · exact h.own g e1
    · exact Or.inr (Nat.le_trans h.size e1)⟩
theorem Put.below {w w' : World} {O : Nat} {v v' : Value} {l : List Int} {bad : Bool} (h : Put w O v w' v') (ho : OutAt w O v l bad) : Below O w w' :=
  ⟨h.os, h.tape, h.output, h.size, fun k hk => h.only k (Nat.lt_trans hk ho.lt) (by omega) (fun e => by have := (ho.row.lt k e.symm).1; omega)⟩

theorem put_set {wr wa w5 : World} {O : Nat} {v v' : Value} {l l' : List Int} {bad : Bool} (hst : OutAt wr O v l bad) (ha : Below wr.heap.size wr wa) (hgrow : wa.grownBy w5 v.ownBlock)
    (hown5 : w5.ownsRow (O + 1) 5 1 v' l'.length (bts l')) (hat : ∀ g, v'.ownBlock = some g → v.ownBlock = some g ∨ wr.heap.size ≤ g) :
    OutAt (w5.setCell ⟨O, 0, none⟩ v') O v' l' bad ∧ Put wr O v (w5.setCell ⟨O, 0, none⟩ v') v' := by
  have hBl := hst.lt
  have has := ha.size
  have hnb : ∀ i, i ≤ O → some i ≠ v.ownBlock := fun i hi e => by have := (hst.row.lt i e.symm).1; omega
  have e5 : w5.heap[O]? = some (.cells #[v, .bool bad] 39 (0, 0)) := (hgrow.block O (by omega) (hnb O (Nat.le_refl _))).trans ((ha.block O hBl).trans hst.box)
  refine ⟨⟨heap_setCell_same w5 O 0 _ _ _ e5, ?_⟩, ?_⟩
  · refine hown5.kept (row := some O) ⟨rfl, rfl, rfl, by simp, fun i hi hne => heap_setCell_other w5 ⟨O, 0, none⟩ i _ (fun e => hne (by rw [e]))⟩ ?_
    cases hv : v'.ownBlock with
    | none => exact Or.inl rfl
    | some g =>
      refine Or.inr ?_
      intro e
      have := (hown5.lt g hv).1
      injection e with e
      omega
  · refine ⟨hgrow.os.trans ha.os, hgrow.tape.trans ha.tape, hgrow.output.trans ha.output, by have := hgrow.size; simp; omega, fun i hi hO hv => ?_, hat⟩
    exact (heap_setCell_other w5 ⟨O, 0, none⟩ i _ (by show i ≠ O; omega)).trans ((hgrow.block i (by omega) hv).trans (ha.block i hi))

/-- What a put leaves. -/
def putPost (w : World) (O : Nat) (v : Value) (l : List Int) (bad : Bool) (e : Ending) (w' : World) : Prop := e = .returned (.tuple #[]) ∧ ∃ v', OutAt w' O v' l bad ∧ Put w O v w' v'

set_option maxRecDepth 100000 in
set_option maxHeartbeats 1600000 in
theorem number_s {w : World} {O : Nat} {v0 : Value} {l : List Int} (h : OutAt w O v0 l false) (x : Int) (hx : 0 ≤ x ∧ x < 18446744073709551616) (size : Nat) (hs : size ≤ 8) (hl : l.length ≤ 1000000) :
    Calls Try.prog 81 #[.pointer (some ⟨O, 0, none⟩), .int .u64 x, .int .i64 size] w fun e w' => putPost w O v0 (l ++ leB x size) false e w' := by
  have h := Lib.hid h
  go_enter Try.func81, Try.ntmps81
  go_wp2_with fail
  go_loopw [1, 7] (fun xv i wr => ∃ (k : Nat) (y : Int) (v : Value) (l2 : List Int), k ≤ size ∧ i = .int .i64 k ∧ xv = .int .u64 y ∧ Hid (0 ≤ y ∧ y < 18446744073709551616) ∧ Hid (l2 ++ leB y (size - k) = l ++ leB x size) ∧ Hid (l2.length = l.length + k) ∧ Hid (OutAt wr O v l2 false) ∧ Hid (Put w O v0 wr v)) (fun _ i _ => size - (intOf i).toNat)
  case atStart => exact ⟨0, x, v0, l, Nat.zero_le _, rfl, rfl, Lib.hid hx, Lib.hid rfl, Lib.hid rfl, h, Lib.hid (Put.refl _ _ _)⟩
  case round =>
    obtain ⟨k, y, v, l2, hk, rfl, rfl, hy, he, hl2, hst, hbl⟩ := hrel
    by_cases hlt : k < size
    · have hlt' : (k : Int) < size := by omega
      have cB : wr.cell? ⟨O, 0, none⟩ = some v := by simp [World.cell?, hst.out.box]
      have hBl := hst.out.lt
      have hnb : v.ownBlock ≠ some O := fun e => by have := (hst.out.row.lt O e).1; omega
      have hown := Lib.hid hst.out.row
      obtain ⟨i5, hi, hz0, hz1, hz2⟩ := info_parts info5
      have hll := hl2.out
      have hy1 := hy.out.1
      have hy2 := hy.out.2
      have hly : (bts l2).length = l2.length * 1 := by simp [bts]
      go_wp2_with (first
        | (at_builtin; refine wpList_append_lies _ rfl _ _ 22 rfl (O + 1) 5 i5 (.int .u8 0) 1 1 Try.underlying22 hi hz0 hz1 hz2 rfl (by decide) v l2.length (bts l2) rfl (hown.out.alloc _) ⟨wr.heap.size, 0, none⟩ 1 1 [.int .u8 (y % 256)] rfl rfl (World.news_of_block (heap_alloc_new _ _)) (fun u hu => by simp at hu; subst hu; rfl) (by omega) (by unfold maxLen; omega) (by omega) (by simp <;> omega) _ rfl ?_; intro g cap w5 hown5 hgrow hat hlg; have e5 : w5.heap[O]? = some (.cells #[v, .bool false] 39 (0, 0)) := (hgrow.block O (by simp <;> omega) (fun e => hnb e.symm)).trans ((((Below.refl wr.heap.size wr).alloc (Nat.le_refl _) _).block O hBl).trans hst.out.box); have cB5 : w5.cell? ⟨O, 0, none⟩ = some v := (by simp [World.cell?, e5]); have fB5 : w5.frozen? ⟨O, 0, none⟩ = false := (by simp [World.frozen?, e5]); replace hat := Lib.hid hat))
      have hel : leB y (size - k) = (y % 256) :: leB (y / 256) (size - (k + 1)) := by
        have : size - k = (size - (k + 1)) + 1 := by omega
        rw [this]
        rfl
      have hn1 : (l2 ++ [y % 256]).length = l.length + k + 1 := by simp; omega
      have hgr := put_set (v' := .slice (some ⟨g, 0, none⟩) (l.length + k + 1) cap) (l' := l2 ++ [y % 256]) hst.out ((Below.refl wr.heap.size wr).alloc (Nat.le_refl _) (.cells #[.int .u8 (y % 256)] 5)) hgrow (by rw [hn1]; simpa [bts, hll] using hown5) (fun g' e => by
        have e : g = g' := by injection e
        subst e
        rcases hat.out with e1 | e1
        · exact Or.inl e1
        · refine Or.inr ?_
          rw [e1]
          simp)
      exact ⟨⟨k + 1, y / 256, _, l2 ++ [y % 256], by omega, by go_num, rfl, Lib.hid (by omega), Lib.hid (by rw [← he.out, hel]; simp), Lib.hid (by simp; omega), Lib.hid hgr.1, Lib.hid (hbl.out.trans hgr.2)⟩, by simp [intOf]; omega⟩
    · obtain rfl : k = size := by omega
      have hlt' : ¬ (k : Int) < k := by omega
      go_wp2_with fail
      go_end0
      have e : l2 = l ++ leB x k := by have := he.out; simpa [leB] using this
      subst e
      exact ⟨rfl, _, hst.out, hbl.out⟩

theorem put_bad {w : World} {O : Nat} {v : Value} {l : List Int} {bad : Bool} (h : OutAt w O v l bad) : OutAt (w.setCell ⟨O, 1, none⟩ (.bool true)) O v l true ∧ Put w O v (w.setCell ⟨O, 1, none⟩ (.bool true)) v := by
  refine ⟨⟨heap_setCell_same w O 1 _ _ _ h.box, ?_⟩, rfl, rfl, rfl, by simp, fun k _ hO _ => heap_setCell_other w ⟨O, 1, none⟩ k _ hO, fun _ e => Or.inl e⟩
  refine h.row.kept (row := some O) ⟨rfl, rfl, rfl, by simp, fun i hi hne => heap_setCell_other w ⟨O, 1, none⟩ i _ (fun e => hne (by rw [e]))⟩ ?_
  cases hv : v.ownBlock with
  | none => exact Or.inl rfl
  | some g =>
    refine Or.inr ?_
    intro e
    have := (h.row.lt g hv).1
    injection e with e
    omega

/-- What a small number's put makes of the bytes. -/
def smallL (l : List Int) (bad : Bool) (x : Int) (size : Nat) : List Int × Bool := if bad = true then (l, true) else if x < 0 ∨ 256 ^ size ≤ x then (l, true) else (l ++ leB x size, false)

set_option maxRecDepth 100000 in
set_option maxHeartbeats 1600000 in
theorem small_s {w : World} {O : Nat} {v0 : Value} {l : List Int} {bad : Bool} (h : OutAt w O v0 l bad) (x : Int) (hx : x < 9223372036854775808) (size : Nat) (hs : size = 1 ∨ size = 2 ∨ size = 4) (hl : l.length ≤ 1000000) :
    Calls Try.prog 80 #[.pointer (some ⟨O, 0, none⟩), .int .i64 x, .int .i64 size] w fun e w' => putPost w O v0 (smallL l bad x size).1 (smallL l bad x size).2 e w' := by
  have c1 : w.cell? ⟨O, 1, none⟩ = some (.bool bad) := by simp [World.cell?, h.box]
  have f1 : w.frozen? ⟨O, 1, none⟩ = false := by simp [World.frozen?, h.box]
  have hb := Lib.hid (put_bad h)
  have hH := Lib.hid h
  have p1 : (256 : Int) ^ 1 = 256 := by decide
  have p2 : (256 : Int) ^ 2 = 65536 := by decide
  have p4 : (256 : Int) ^ 4 = 4294967296 := by decide
  by_cases hr : x < 0 ∨ 256 ^ size ≤ x
  · have e : smallL l bad x size = (l, true) := by unfold smallL; split <;> simp_all
    rw [e]
    clear e h
    by_cases h0 : x < 0
    · clear hr
      rcases hs with rfl | rfl | rfl
      all_goals
        go_enter Try.func80, Try.ntmps80
        go_wp2_with fail
        go_end0
        exact ⟨rfl, _, hb.out.1, hb.out.2⟩
    · replace hr : 256 ^ size ≤ x := by rcases hr with e | e; exact absurd e h0; exact e
      rcases hs with rfl | rfl | rfl
      · rw [p1] at hr
        have h1 : ¬ x / 256 = 0 := by omega
        clear p1 p2 p4 hr hl
        go_enter Try.func80, Try.ntmps80
        go_wp2_with fail
        go_end0
        exact ⟨rfl, _, hb.out.1, hb.out.2⟩
      · rw [p2] at hr
        have h1 : ¬ x / 65536 = 0 := by omega
        clear p1 p2 p4 hr hl
        go_enter Try.func80, Try.ntmps80
        go_wp2_with fail
        go_end0
        exact ⟨rfl, _, hb.out.1, hb.out.2⟩
      · rw [p4] at hr
        have h1 : ¬ x / 4294967296 = 0 := by omega
        clear p1 p2 p4 hr hl
        go_enter Try.func80, Try.ntmps80
        go_wp2_with fail
        go_end0
        exact ⟨rfl, _, hb.out.1, hb.out.2⟩
  · have hx0 : 0 ≤ x ∧ x < 256 ^ size := ⟨by omega, by omega⟩
    have hx1 : ¬ x < 0 := by omega
    have hx2 : x % 18446744073709551616 = x := by omega
    cases bad with
    | true =>
      have e : smallL l true x size = (l, true) := by simp [smallL]
      rw [e]
      clear hr e h
      rcases hs with rfl | rfl | rfl
      · rw [p1] at hx0
        have h1 : x / 256 = 0 := by omega
        go_enter Try.func80, Try.ntmps80
        go_wp2_with fail
        go_end0
        exact ⟨rfl, _, hH.out, Put.refl _ _ _⟩
      · rw [p2] at hx0
        have h1 : x / 65536 = 0 := by omega
        go_enter Try.func80, Try.ntmps80
        go_wp2_with fail
        go_end0
        exact ⟨rfl, _, hH.out, Put.refl _ _ _⟩
      · rw [p4] at hx0
        have h1 : x / 4294967296 = 0 := by omega
        go_enter Try.func80, Try.ntmps80
        go_wp2_with fail
        go_end0
        exact ⟨rfl, _, hH.out, Put.refl _ _ _⟩
    | false =>
      have e : smallL l false x size = (l ++ leB x size, false) := by simp [smallL, hr]
      rw [e]
      have H81 := Lib.hid (number_s h x (by omega) size (by rcases hs with rfl | rfl | rfl <;> omega) hl)
      clear hr e h
      rcases hs with rfl | rfl | rfl
      · rw [p1] at hx0
        have h1 : x / 256 = 0 := by omega
        go_enter Try.func80, Try.ntmps80
        go_wp2_with fail
        refine H81.out.mono ?_
        rintro e w1 ⟨rfl, v1, h1, h2⟩
        have h1 := Lib.hid h1
        have h2 := Lib.hid h2
        go_wp2_with fail
        go_end0
        exact ⟨rfl, _, h1.out, h2.out⟩
      · rw [p2] at hx0
        have h1 : x / 65536 = 0 := by omega
        go_enter Try.func80, Try.ntmps80
        go_wp2_with fail
        refine H81.out.mono ?_
        rintro e w1 ⟨rfl, v1, h1, h2⟩
        have h1 := Lib.hid h1
        have h2 := Lib.hid h2
        go_wp2_with fail
        go_end0
        exact ⟨rfl, _, h1.out, h2.out⟩
      · rw [p4] at hx0
        have h1 : x / 4294967296 = 0 := by omega
        go_enter Try.func80, Try.ntmps80
        go_wp2_with fail
        refine H81.out.mono ?_
        rintro e w1 ⟨rfl, v1, h1, h2⟩
        have h1 := Lib.hid h1
        have h2 := Lib.hid h2
        go_wp2_with fail
        go_end0
        exact ⟨rfl, _, h1.out, h2.out⟩

theorem u8_s {w : World} {O : Nat} {v0 : Value} {l : List Int} {bad : Bool} (h : OutAt w O v0 l bad) (x : Int) (hx : x < 9223372036854775808) (hl : l.length ≤ 1000000) :
    Calls Try.prog 62 #[.pointer (some ⟨O, 0, none⟩), .int .i64 x] w fun e w' => putPost w O v0 (smallL l bad x 1).1 (smallL l bad x 1).2 e w' := by
  have H := Lib.hid (small_s h x hx 1 (by omega) hl)
  go_enter Try.func62, Try.ntmps62
  go_wp2_with fail
  refine H.out.mono ?_
  rintro e w1 ⟨rfl, v1, h1, h2⟩
  have h1 := Lib.hid h1
  have h2 := Lib.hid h2
  go_wp2_with fail
  go_end0
  exact ⟨rfl, v1, h1.out, h2.out⟩

theorem u16_s {w : World} {O : Nat} {v0 : Value} {l : List Int} {bad : Bool} (h : OutAt w O v0 l bad) (x : Int) (hx : x < 9223372036854775808) (hl : l.length ≤ 1000000) :
    Calls Try.prog 58 #[.pointer (some ⟨O, 0, none⟩), .int .i64 x] w fun e w' => putPost w O v0 (smallL l bad x 2).1 (smallL l bad x 2).2 e w' := by
  have H := Lib.hid (small_s h x hx 2 (by omega) hl)
  go_enter Try.func58, Try.ntmps58
  go_wp2_with fail
  refine H.out.mono ?_
  rintro e w1 ⟨rfl, v1, h1, h2⟩
  have h1 := Lib.hid h1
  have h2 := Lib.hid h2
  go_wp2_with fail
  go_end0
  exact ⟨rfl, v1, h1.out, h2.out⟩

theorem u32_s {w : World} {O : Nat} {v0 : Value} {l : List Int} {bad : Bool} (h : OutAt w O v0 l bad) (x : Int) (hx : x < 9223372036854775808) (hl : l.length ≤ 1000000) :
    Calls Try.prog 63 #[.pointer (some ⟨O, 0, none⟩), .int .i64 x] w fun e w' => putPost w O v0 (smallL l bad x 4).1 (smallL l bad x 4).2 e w' := by
  have H := Lib.hid (small_s h x hx 4 (by omega) hl)
  go_enter Try.func63, Try.ntmps63
  go_wp2_with fail
  refine H.out.mono ?_
  rintro e w1 ⟨rfl, v1, h1, h2⟩
  have h1 := Lib.hid h1
  have h2 := Lib.hid h2
  go_wp2_with fail
  go_end0
  exact ⟨rfl, v1, h1.out, h2.out⟩

theorem i64_s {w : World} {O : Nat} {v0 : Value} {l : List Int} {bad : Bool} (h : OutAt w O v0 l bad) (x : Int) (hl : l.length ≤ 1000000) :
    Calls Try.prog 64 #[.pointer (some ⟨O, 0, none⟩), .int .i64 x] w fun e w' => putPost w O v0 (if bad = true then l else l ++ leB (x % 18446744073709551616) 8) bad e w' := by
  have c1 : w.cell? ⟨O, 1, none⟩ = some (.bool bad) := by simp [World.cell?, h.box]
  have hH := Lib.hid h
  cases bad with
  | true =>
    clear h
    go_enter Try.func64, Try.ntmps64
    go_wp2_with fail
    go_end0
    exact ⟨rfl, _, hH.out, Put.refl _ _ _⟩
  | false =>
    have H81 := Lib.hid (number_s h (x % 18446744073709551616) (by omega) 8 (by omega) hl)
    clear h
    go_enter Try.func64, Try.ntmps64
    go_wp2_with fail
    refine H81.out.mono ?_
    rintro e w1 ⟨rfl, v1, h1, h2⟩
    have h1 := Lib.hid h1
    have h2 := Lib.hid h2
    go_wp2_with fail
    go_end0
    exact ⟨rfl, v1, h1.out, h2.out⟩

theorem flag_s {w : World} {O : Nat} {v0 : Value} {l : List Int} {bad : Bool} (h : OutAt w O v0 l bad) (f : Bool) (hl : l.length ≤ 1000000) :
    Calls Try.prog 65 #[.pointer (some ⟨O, 0, none⟩), .bool f] w fun e w' => putPost w O v0 (smallL l bad (if f = true then 1 else 0) 1).1 (smallL l bad (if f = true then 1 else 0) 1).2 e w' := by
  have H := Lib.hid (u8_s h (if f = true then 1 else 0) (by split <;> omega) hl)
  cases f
  all_goals
    simp only [if_true, Bool.false_eq_true, if_false] at H ⊢
    go_enter Try.func65, Try.ntmps65
    go_wp2_with fail
    refine H.out.mono ?_
    rintro e w1 ⟨rfl, v1, h1, h2⟩
    have h1 := Lib.hid h1
    have h2 := Lib.hid h2
    go_wp2_with fail
    go_end0
    exact ⟨rfl, v1, h1.out, h2.out⟩

/-- The bytes' list. -/
def lof (n : Nat) (F : Nat → Int) : List Int := (List.range n).map F
theorem lof_len (n : Nat) (F : Nat → Int) : (lof n F).length = n := by simp [lof]

theorem owns_slice {w : World} {base : Nat} {e : TypeId} {size : Nat} {v : Value} {n : Nat} {xs : List Value} (h : w.ownsRow base e size v n xs) : ∃ a k c, v = .slice a k c := by
  rcases h.2 with ⟨rfl, _⟩ | ⟨g, cap, cur, rfl, _⟩
  · exact ⟨_, _, _, rfl⟩
  · exact ⟨_, _, _, rfl⟩

set_option maxRecDepth 100000 in
theorem plain_s {w : World} {O : Nat} {v0 : Value} {l : List Int} {bad : Bool} (h : OutAt w O v0 l bad) {a : Option Addr} {n c : Nat} {F : Nat → Int} (hi : IntsAt w .u8 a n F) (ha : a = none → n = 0 ∧ c = 0) (hl : l.length ≤ 1000000) (hn : n ≤ 1000000) :
    Calls Try.prog 67 #[.pointer (some ⟨O, 0, none⟩), .slice a n c] w fun e w' => putPost w O v0 (if bad = true then l else l ++ lof n F) bad e w' := by
  have c1 : w.cell? ⟨O, 1, none⟩ = some (.bool bad) := by simp [World.cell?, h.box]
  have c0 : w.cell? ⟨O, 0, none⟩ = some v0 := by simp [World.cell?, h.box]
  have f0 : w.frozen? ⟨O, 0, none⟩ = false := by simp [World.frozen?, h.box]
  have hH := Lib.hid h
  obtain ⟨av, kv, cv, rfl⟩ := owns_slice h.row
  cases bad with
  | true =>
    clear h
    go_enter Try.func67, Try.ntmps67
    go_wp2_with fail
    go_end0
    exact ⟨rfl, _, hH.out, Put.refl _ _ _⟩
  | false =>
    obtain ⟨i5, hi5, hz0, hz1, hz2⟩ := info_parts info5
    cases a with
    | none =>
      obtain ⟨rfl, rfl⟩ := ha rfl
      clear h ha
      go_enter Try.func67, Try.ntmps67
      go_wp2_with (first
        | (at_builtin; refine wpList_append_own_none rfl _ _ 22 rfl (O + 1) 5 i5 1 Try.underlying22 hi5 _ l.length (bts l) rfl hH.out.row rfl ?_))
      go_end0
      have := put_set hH.out (Below.refl _ _) ⟨rfl, rfl, rfl, Nat.le_refl _, fun _ _ _ => rfl⟩ hH.out.row (fun _ e => Or.inl e)
      exact ⟨rfl, _, by simpa [lof] using this⟩
    | some p =>
      have hcl := Lib.hid (show ∀ j u, (bts (lof n F))[j]? = some u → w.cell? (p.add j) = some u from by
        intro j u hu
        have hj : j < n := by
          have := (List.getElem?_eq_some_iff.1 hu).1
          simpa [bts, lof] using this
        obtain ⟨b, o, e, hb, hc⟩ := hi.2 (by omega)
        cases e
        have hadd : (⟨b, o, none⟩ : Addr).add j = ⟨b, o + j, none⟩ := by unfold Addr.add; split <;> simp_all
        rw [hadd, hc j hj]
        simp [bts, lof, hj] at hu
        rw [← hu])
      have h1c := Lib.hid (show ∀ u ∈ bts (lof n F), u.oneCell' = true from by
        intro u hu
        simp only [bts, List.mem_map] at hu
        obtain ⟨z, _, rfl⟩ := hu
        rfl)
      have hlb : (bts (lof n F)).length = n * 1 := by simp [bts, lof]
      have hO := h.lt
      have hnb : (Value.slice av kv cv).ownBlock ≠ some O := fun e => by have := (h.row.lt O e).1; omega
      clear h ha hi
      go_enter Try.func67, Try.ntmps67
      go_wp2_with (first
        | (at_builtin; refine wpList_append_own_at _ rfl _ _ 22 rfl (O + 1) 5 i5 (.int .u8 0) 1 1 Try.underlying22 hi5 hz0 hz1 hz2 rfl (by decide) _ l.length (bts l) rfl hH.out.row p n c (bts (lof n F)) rfl hlb hcl.out h1c.out (by unfold maxLen; omega) (by omega) (by omega) ?_; intro v' w5 hown' hgrow hnil hat; obtain ⟨a', k', c', rfl⟩ := owns_slice hown'; have e5 : w5.heap[O]? = some (.cells #[.slice av kv cv, .bool false] 39 (0, 0)) := (hgrow.block O hO (fun e => hnb e.symm)).trans hH.out.box; have cB5 : w5.cell? ⟨O, 0, none⟩ = some (.slice av kv cv) := (by simp [World.cell?, e5]); have fB5 : w5.frozen? ⟨O, 0, none⟩ = false := (by simp [World.frozen?, e5]); replace hat := Lib.hid hat; replace hnil := Lib.hid hnil))
      go_end0
      have hb2 : bts l ++ bts (lof n F) = bts (l ++ lof n F) := by simp [bts]
      have := put_set (v' := .slice a' k' c') (l' := l ++ lof n F) hH.out (Below.refl _ _) hgrow (by rw [← hb2, List.length_append, lof_len]; exact hown') (fun g e => by
        rcases hat.out with e1 | e1
        · exact Or.inl (e1.symm.trans e)
        · rw [e1] at e
          injection e with e
          exact Or.inr (Nat.le_of_eq e))
      exact ⟨rfl, _, by simpa using this⟩

theorem smallL_len (l : List Int) (bad : Bool) (x : Int) (k : Nat) : (smallL l bad x k).1.length ≤ l.length + k := by
  unfold smallL
  split
  · simp
  · split
    · simp
    · simp [leB_len]

/-- What so many bytes behind their number make of the bytes. -/
def bytesL (l : List Int) (bad : Bool) (n : Nat) (F : Nat → Int) : List Int := if (smallL l bad n 2).2 = true then (smallL l bad n 2).1 else (smallL l bad n 2).1 ++ lof n F

theorem bytes_s {w : World} {O : Nat} {v0 : Value} {l : List Int} {bad : Bool} (h : OutAt w O v0 l bad) {a : Option Addr} {n c : Nat} {F : Nat → Int} (hi : IntsAt w .u8 a n F) (ha : a = none → n = 0 ∧ c = 0) (hO : 0 < n → ∀ p, a = some p → p.block < O) (hl : l.length ≤ 999990) (hn : n ≤ 1000000) :
    Calls Try.prog 66 #[.pointer (some ⟨O, 0, none⟩), .slice a n c] w fun e w' => putPost w O v0 (bytesL l bad n F) (smallL l bad n 2).2 e w' := by
  have H := Lib.hid (u16_s h n (by omega) (by omega))
  have hlen := smallL_len l bad n 2
  have hO' := Lib.hid h
  replace hi := Lib.hid hi
  replace ha := Lib.hid ha
  replace hO := Lib.hid hO
  clear h
  unfold bytesL
  generalize smallL l bad n 2 = r at *
  obtain ⟨r1, r2⟩ := r
  simp only at hlen H ⊢
  generalize hB : (if r2 = true then r1 else r1 ++ lof n F) = B
  replace hB := Lib.hid hB
  go_enter Try.func66, Try.ntmps66
  go_wp2_with fail
  refine H.out.mono ?_
  rintro e w1 ⟨rfl, v1, h1, h2⟩
  have hi1 : IntsAt w1 .u8 a n F := ⟨hi.out.1, fun hp => by
    obtain ⟨b, o, e, hb, hc⟩ := hi.out.2 hp
    have hbO := hO.out hp _ e
    exact ⟨b, o, e, by have := h2.size; omega, fun j hj => (World.cell?_of_block (a := ⟨b, o + j, none⟩) ((h2.below hO'.out).block b hbO)).trans (hc j hj)⟩⟩
  have H67 := plain_s (c := c) h1 hi1 ha.out (by omega) hn
  rw [hB.out] at H67
  replace H67 := Lib.hid H67
  replace h2 := Lib.hid h2
  clear h1 hi1
  go_wp2_with fail
  refine H67.out.mono ?_
  rintro e w2 ⟨rfl, v2, h3, h4⟩
  replace h3 := Lib.hid h3
  replace h4 := Lib.hid h4
  go_wp2_with fail
  go_end0
  exact ⟨rfl, v2, h3.out, h2.out.trans h4.out⟩

theorem end_bad {w : World} {O : Nat} {v : Value} {l : List Int} (h : OutAt w O v l true) :
    Calls Try.prog 28 #[.pointer (some ⟨O, 0, none⟩)] w fun e w' => e = .returned (.tuple #[.slice none 0 0, .int .i64 2]) ∧ w' = w := by
  have c1 : w.cell? ⟨O, 1, none⟩ = some (.bool true) := by simp [World.cell?, h.box]
  clear h
  go_enter Try.func28, Try.ntmps28
  go_wp2_with fail
  go_ret2
  exact ⟨rfl, rfl⟩

/-- What End leaves. -/
def endS (w : World) (l : List Int) (e : Ending) (w' : World) : Prop :=
  ∃ a c, e = .returned (.tuple #[.slice a l.length c, .int .i64 0]) ∧ IntsAt w' .u8 a l.length (fun j => l.getD j 0) ∧ (a = none → l.length = 0 ∧ c = 0) ∧ l.length ≤ c ∧ c ≤ maxLen ∧ (∀ p, a = some p → w.heap.size ≤ p.block) ∧ Below w.heap.size w w'

theorem end_s {w : World} {O : Nat} {v : Value} {l : List Int} (h : OutAt w O v l false) (hl : l.length ≤ 100000000) :
    Calls Try.prog 28 #[.pointer (some ⟨O, 0, none⟩)] w fun e w' => endS w l e w' := by
  have hv : ∃ a c, v = .slice a l.length c ∧ IntsAt w .u8 a l.length (fun j => l.getD j 0) ∧ (a = none → l.length = 0) := by
    rcases h.row.2 with ⟨rfl, h0⟩ | ⟨g, cap, cur, rfl, hb, hg, hnc, hcm, hcs, ht⟩
    · exact ⟨none, 0, by rw [h0], ⟨by omega, fun hp => absurd hp (by omega)⟩, fun _ => h0⟩
    · refine ⟨_, cap, rfl, ⟨by omega, fun hp => ⟨g, 0, rfl, (Array.getElem?_eq_some_iff.1 hg).1, fun j hj => ?_⟩⟩, fun e => by cases e⟩
      have := h.row.cellAt j (by omega)
      simpa [bts, List.getD, hj] using this
  obtain ⟨a, c, rfl, hi, hn⟩ := hv
  have c0 : w.cell? ⟨O, 0, none⟩ = some (.slice a l.length c) := by simp [World.cell?, h.box]
  have c1 : w.cell? ⟨O, 1, none⟩ = some (.bool false) := by simp [World.cell?, h.box]
  have H59 := Lib.hid (bclone_any (c := c) hi hn (by omega))
  clear h hi
  go_enter Try.func28, Try.ntmps28
  go_wp2_with fail
  refine H59.out.mono ?_
  rintro e w1 ⟨a2, c2, rfl, h1, h2, h3, h4, h5, h6⟩
  have h1 := Lib.hid h1
  replace h2 := Lib.hid h2
  replace h5 := Lib.hid h5
  replace h6 := Lib.hid h6
  go_wp2_with fail
  go_ret2
  exact ⟨a2, c2, by simp, h1.out, h2.out, h3, h4, fun p e => (h5.out p e).1, h6.out⟩

end Go.Proofs.Ytnkgbigjpihfeaa.Kd
