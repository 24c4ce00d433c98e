/- The codec's reader, whole: what each reading leaves, over the list of what is left. -/
import Derived.Test.YtnkgbigjpihfeaaKm
import Derived.Test.YtnkgbigjpihfeaaKl
set_option linter.unusedVariables false
set_option linter.unusedSimpArgs false
namespace Go.Proofs.Ytnkgbigjpihfeaa.Kd
open Go.RowKit Go.Proofs.Ytnkgbigjpihfeaa.Lib

/-- A list's number, the least first. -/
def leL : List Int → Int
  | [] => 0
  | b :: t => b + 256 * leL t

theorem leL_snoc (l : List Int) (b : Int) : leL (l ++ [b]) = leL l + b * 256 ^ l.length := by
  induction l with
  | nil => simp [leL]
  | cons x t ih =>
    simp only [List.cons_append, leL, ih, List.length_cons, Int.pow_succ]
    have : b * (256 ^ t.length * 256) = 256 * (b * 256 ^ t.length) := by
      rw [← Int.mul_assoc, Int.mul_comm]
    omega
theorem leV_leL (F : Nat → Int) : ∀ k, leV F k = leL ((List.range k).map F)
  | 0 => rfl
  | k + 1 => by
    rw [List.range_succ, List.map_append, List.map_singleton, leL_snoc]
    simp [leV, leV_leL F k]

theorem leL_leB : ∀ (k : Nat) (v : Int), 0 ≤ v → v < 256 ^ k → leL (leB v k) = v
  | 0, v, h0, h1 => by
    simp at h1
    simp [leB, leL]
    omega
  | k + 1, v, h0, h1 => by
    simp only [leB, leL]
    rw [leL_leB k (v / 256) (by omega) (by rw [Int.pow_succ] at h1; omega)]
    omega

def okB (L : List Int) : Prop := ∀ x ∈ L, 0 ≤ x ∧ x < 256
theorem leL_bounds : ∀ {L : List Int}, okB L → 0 ≤ leL L ∧ leL L < 256 ^ L.length
  | [], _ => by simp [leL]
  | b :: t, h => by
    have ih := leL_bounds (L := t) (fun x hx => h x (List.mem_cons_of_mem _ hx))
    have hb := h b List.mem_cons_self
    simp only [leL, List.length_cons, Int.pow_succ]
    omega
theorem okB_drop {L : List Int} (h : okB L) (k : Nat) : okB (L.drop k) := fun x hx => h x (List.mem_of_mem_drop hx)
theorem okB_take {L : List Int} (h : okB L) (k : Nat) : okB (L.take k) := fun x hx => h x (List.mem_of_mem_take hx)
theorem okB_leB : ∀ (k : Nat) (v : Int), okB (leB v k)
  | 0, _ => fun x hx => by cases hx
  | k + 1, v => fun x hx => by
    simp only [leB, List.mem_cons] at hx
    rcases hx with rfl | hx
    · omega
    · exact okB_leB k _ x hx
theorem okB_append {L M : List Int} (h : okB L) (k : okB M) : okB (L ++ M) := fun x hx => by
  rcases List.mem_append.1 hx with e | e
  · exact h x e
  · exact k x e
theorem okB_lof {n : Nat} {F : Nat → Int} (h : ∀ j, j < n → 0 ≤ F j ∧ F j < 256) : okB (lof n F) := fun x hx => by
  simp only [lof, List.mem_map, List.mem_range] at hx
  obtain ⟨j, hj, rfl⟩ := hx
  exact h j hj

def gtD (L : List Int) (j : Nat) : Int := L.getD j 0
theorem gtD_lof {n j : Nat} {F : Nat → Int} (h : j < n) : gtD (lof n F) j = F j := by simp [gtD, lof, List.getD, h]
theorem lof_gtD (L : List Int) : lof L.length (gtD L) = L := by
  apply List.ext_getElem
  · simp [lof]
  · intro i h1 h2
    simp [lof, gtD, List.getD, h2]
theorem gtD_take {L : List Int} {k j : Nat} (h : j < k) : gtD (L.take k) j = gtD L j := by simp [gtD, List.getD, List.getElem?_take, h]
theorem gtD_drop (L : List Int) (k j : Nat) : gtD (L.drop k) j = gtD L (k + j) := by simp [gtD, List.getD]
theorem leV_gtD (L : List Int) (k : Nat) (hk : k ≤ L.length) : leV (gtD L) k = leL (L.take k) := by
  rw [leV_leL]
  congr 1
  have := lof_gtD (L.take k)
  rw [← this]
  have e : (L.take k).length = k := by simp; omega
  rw [e]
  unfold lof
  apply List.map_congr_left
  intro j hj
  exact (gtD_take (List.mem_range.1 hj)).symm

theorem ints_congr {w : World} {k : IntKind} {a : Option Addr} {n : Nat} {F G : Nat → Int} (h : IntsAt w k a n F) (e : ∀ j, j < n → F j = G j) : IntsAt w k a n G := ⟨h.1, fun hp => by
  obtain ⟨b, o, e1, hb, hc⟩ := h.2 hp
  exact ⟨b, o, e1, hb, fun j hj => by rw [← e j hj]; exact hc j hj⟩⟩

/-- Block I is a reader, this is left. -/
def InL (w : World) (I : Nat) (L : List Int) (bad : Bool) : Prop := ∃ a c, InAt w I a L.length c (gtD L) bad

theorem InL.of {w : World} {I : Nat} {a : Option Addr} {n c : Nat} {F : Nat → Int} {bad : Bool} {L : List Int} (h : InAt w I a n c F bad) (hn : n = L.length) (hF : ∀ j, j < n → F j = gtD L j) : InL w I L bad := by
  subst hn
  exact ⟨a, c, h.box, ints_congr h.ints hF, h.nil, h.room, h.far, fun j hj => by rw [← hF j hj]; exact h.wf j hj⟩
theorem InL.okB {w : World} {I : Nat} {L : List Int} {bad : Bool} (h : InL w I L bad) : okB L := fun x hx => by
  obtain ⟨a, c, h⟩ := h
  obtain ⟨j, hj, rfl⟩ := List.mem_iff_getElem.1 hx
  have := h.wf j hj
  simpa [gtD, List.getD, hj] using this
theorem InL.keep {w w' : World} {I : Nat} {L : List Int} {bad : Bool} (h : InL w I L bad) (hb : Below w.heap.size w w') : InL w' I L bad := by
  obtain ⟨a, c, h⟩ := h
  exact ⟨a, c, h.keep hb⟩
theorem InL.lt {w : World} {I : Nat} {L : List Int} {bad : Bool} (h : InL w I L bad) : I < w.heap.size := by
  obtain ⟨a, c, h⟩ := h
  exact h.lt

/-- What a reading leaves of the reader. -/
def rdLeft (w : World) (I : Nat) (L : List Int) (bad : Bool) (w' : World) : Prop := InL w' I L bad ∧ w.grownBy w' (some I)

theorem grown_below {w w' : World} {I : Nat} (h : w.grownBy w' (some I)) (hI : I < w.heap.size) : Below I w w' := ⟨h.os, h.tape, h.output, h.size, fun k hk => h.block k (by omega) (fun e => by injection e with e; omega)⟩
theorem grown_refl (w : World) (I : Nat) : w.grownBy w (some I) := ⟨rfl, rfl, rfl, Nat.le_refl _, fun _ _ _ => rfl⟩
theorem grown_trans {w w1 w2 : World} {I : Nat} (h : w.grownBy w1 (some I)) (k : w1.grownBy w2 (some I)) : w.grownBy w2 (some I) :=
  ⟨k.os.trans h.os, k.tape.trans h.tape, k.output.trans h.output, Nat.le_trans h.size k.size, fun i hi hn => (k.block i (Nat.lt_of_lt_of_le hi h.size) hn).trans (h.block i hi hn)⟩
theorem grown_of_below {w w1 : World} {I : Nat} (h : Below w.heap.size w w1) : w.grownBy w1 (some I) := ⟨h.os, h.tape, h.output, h.size, fun i hi _ => h.block i hi⟩
theorem grown_of {w w1 : World} {I : Nat} (h : Below I w w1) (hs : ∀ i, i ≠ I → w1.heap[i]? = w.heap[i]?) : w.grownBy w1 (some I) :=
  ⟨h.os, h.tape, h.output, h.size, fun i hi hn => hs i (fun e => hn (by rw [e]))⟩
theorem rd_bad {w w' : World} {I : Nat} (h : badPost w I w') : rdLeft w I [] true w' := ⟨InL.of h.1 rfl (fun j hj => absurd hj (by omega)), grown_of h.2.1 h.2.2.1⟩

/-- What a number of k bytes is, and what it leaves. -/
def rdN (L : List Int) (bad : Bool) (k : Nat) : Int × List Int × Bool := if bad = true ∨ L.length < k then (0, [], true) else (leL (L.take k), L.drop k, false)

theorem rdN_lt {L : List Int} {bad : Bool} {k : Nat} (h : okB L) : 0 ≤ (rdN L bad k).1 ∧ (rdN L bad k).1 < 256 ^ k := by
  unfold rdN
  have hp : (0 : Int) < 256 ^ k := Int.pow_pos (by decide)
  split
  · exact ⟨Int.le_refl _, hp⟩
  · rename_i hh
    have := leL_bounds (okB_take h k)
    have e : (L.take k).length = k := by simp; omega
    rw [e] at this
    exact this

theorem number_r {w : World} {I : Nat} {L : List Int} {bad : Bool} (h : InL w I L bad) (k : Nat) (hk0 : 0 < k) (hk8 : k ≤ 8) :
    Calls Try.prog 61 #[.pointer (some ⟨I, 0, none⟩), .int .i64 k] w fun e w' => e = .returned (.int .u64 (rdN L bad k).1) ∧ rdLeft w I (rdN L bad k).2.1 (rdN L bad k).2.2 w' := by
  obtain ⟨a, c, h⟩ := h
  by_cases hk : bad = true ∨ L.length < k
  · refine (number_bad h k (by rcases hk with e | e; exact Or.inl e; exact Or.inr (Or.inr (by omega)))).mono ?_
    rintro e w' ⟨rfl, hb⟩
    rw [show rdN L bad k = (0, [], true) from by unfold rdN; rw [if_pos hk]]
    exact ⟨rfl, rd_bad hb⟩
  · have hb : bad = false := by cases bad <;> simp_all
    subst hb
    refine (number_ok h (by omega) hk0 hk8).mono ?_
    rintro e w' ⟨rfl, ⟨a2, c2, h2⟩, hb, hs, _⟩
    rw [show rdN L false k = (leL (L.take k), L.drop k, false) from by unfold rdN; rw [if_neg hk]]
    exact ⟨by rw [leV_gtD L k (by omega)], InL.of h2 (by simp) (fun j _ => (gtD_drop L k j).symm), grown_of hb hs⟩

theorem u8_r {w : World} {I : Nat} {L : List Int} {bad : Bool} (h : InL w I L bad) :
    Calls Try.prog 20 #[.pointer (some ⟨I, 0, none⟩)] w fun e w' => e = .returned (.int .i64 (rdN L bad 1).1) ∧ rdLeft w I (rdN L bad 1).2.1 (rdN L bad 1).2.2 w' := by
  have H := Lib.hid (number_r h 1 (by omega) (by omega))
  have hl := rdN_lt (bad := bad) (k := 1) h.okB
  have hp : (256 : Int) ^ 1 = 256 := by decide
  rw [hp] at hl
  clear h hp
  generalize rdN L bad 1 = r at *
  have hw : wrap64 r.1 = r.1 := by unfold wrap64; omega
  go_enter Try.func20, Try.ntmps20
  go_wp2_with fail
  refine H.out.mono ?_
  rintro e w1 ⟨rfl, h1⟩
  have h1 := Lib.hid h1
  go_wp2_with fail
  go_ret
  exact ⟨by simp [hw], h1.out⟩

theorem u16_r {w : World} {I : Nat} {L : List Int} {bad : Bool} (h : InL w I L bad) :
    Calls Try.prog 30 #[.pointer (some ⟨I, 0, none⟩)] w fun e w' => e = .returned (.int .i64 (rdN L bad 2).1) ∧ rdLeft w I (rdN L bad 2).2.1 (rdN L bad 2).2.2 w' := by
  have H := Lib.hid (number_r h 2 (by omega) (by omega))
  have hl := rdN_lt (bad := bad) (k := 2) h.okB
  have hp : (256 : Int) ^ 2 = 65536 := by decide
  rw [hp] at hl
  clear h hp
  generalize rdN L bad 2 = r at *
  have hw : wrap64 r.1 = r.1 := by unfold wrap64; omega
  go_enter Try.func30, Try.ntmps30
  go_wp2_with fail
  refine H.out.mono ?_
  rintro e w1 ⟨rfl, h1⟩
  have h1 := Lib.hid h1
  go_wp2_with fail
  go_ret
  exact ⟨by simp [hw], h1.out⟩

theorem u32_r {w : World} {I : Nat} {L : List Int} {bad : Bool} (h : InL w I L bad) :
    Calls Try.prog 31 #[.pointer (some ⟨I, 0, none⟩)] w fun e w' => e = .returned (.int .i64 (rdN L bad 4).1) ∧ rdLeft w I (rdN L bad 4).2.1 (rdN L bad 4).2.2 w' := by
  have H := Lib.hid (number_r h 4 (by omega) (by omega))
  have hl := rdN_lt (bad := bad) (k := 4) h.okB
  have hp : (256 : Int) ^ 4 = 4294967296 := by decide
  rw [hp] at hl
  clear h hp
  generalize rdN L bad 4 = r at *
  have hw : wrap64 r.1 = r.1 := by unfold wrap64; omega
  go_enter Try.func31, Try.ntmps31
  go_wp2_with fail
  refine H.out.mono ?_
  rintro e w1 ⟨rfl, h1⟩
  have h1 := Lib.hid h1
  go_wp2_with fail
  go_ret
  exact ⟨by simp [hw], h1.out⟩

theorem i64_r {w : World} {I : Nat} {L : List Int} {bad : Bool} (h : InL w I L bad) :
    Calls Try.prog 32 #[.pointer (some ⟨I, 0, none⟩)] w fun e w' => e = .returned (.int .i64 (wrap64 (rdN L bad 8).1)) ∧ rdLeft w I (rdN L bad 8).2.1 (rdN L bad 8).2.2 w' := by
  have H := Lib.hid (number_r h 8 (by omega) (by omega))
  clear h
  generalize rdN L bad 8 = r at *
  go_enter Try.func32, Try.ntmps32
  go_wp2_with fail
  refine H.out.mono ?_
  rintro e w1 ⟨rfl, h1⟩
  have h1 := Lib.hid h1
  go_wp2_with fail
  go_ret
  exact ⟨by simp, h1.out⟩

theorem fail_r {w : World} {I : Nat} {L : List Int} {bad : Bool} (h : InL w I L bad) :
    Calls Try.prog 60 #[.pointer (some ⟨I, 0, none⟩)] w fun e w' => e = .returned (.tuple #[]) ∧ rdLeft w I [] true w' := by
  obtain ⟨a, c, h⟩ := h
  refine (fail_any h).mono ?_
  rintro e w' ⟨rfl, hb⟩
  exact ⟨rfl, rd_bad hb⟩

/-- What a flag is, and what it leaves. -/
def rdF (L : List Int) (bad : Bool) : Bool × List Int × Bool := if 1 < (rdN L bad 1).1 then (false, [], true) else (decide ((rdN L bad 1).1 = 1), (rdN L bad 1).2)

theorem flag_r {w : World} {I : Nat} {L : List Int} {bad : Bool} (h : InL w I L bad) :
    Calls Try.prog 33 #[.pointer (some ⟨I, 0, none⟩)] w fun e w' => e = .returned (.bool (rdF L bad).1) ∧ rdLeft w I (rdF L bad).2.1 (rdF L bad).2.2 w' := by
  have H := Lib.hid (u8_r h)
  clear h
  unfold rdF
  generalize rdN L bad 1 = r at *
  by_cases hr : 1 < r.1
  · have hr1 : ¬ r.1 = 1 := by omega
    rw [if_pos hr]
    go_enter Try.func33, Try.ntmps33
    go_wp2_with fail
    refine H.out.mono ?_
    rintro e w1 ⟨rfl, h1⟩
    have H60 := Lib.hid (fail_r h1.1)
    have h1 := Lib.hid h1
    go_wp2_with fail
    refine H60.out.mono ?_
    rintro e w2 ⟨rfl, h2⟩
    replace h2 := Lib.hid h2
    go_wp2_with fail
    go_ret
    exact ⟨by simp [hr1], h2.out.1, grown_trans h1.out.2 h2.out.2⟩
  · rw [if_neg hr]
    go_enter Try.func33, Try.ntmps33
    go_wp2_with fail
    refine H.out.mono ?_
    rintro e w1 ⟨rfl, h1⟩
    have h1 := Lib.hid h1
    go_wp2_with fail
    go_ret
    exact ⟨by simp; rfl, h1.out⟩

theorem bad_r {w : World} {I : Nat} {L : List Int} {bad : Bool} (h : InL w I L bad) : Calls Try.prog 19 #[.pointer (some ⟨I, 0, none⟩)] w fun e w' => e = .returned (.bool bad) ∧ w' = w := by
  obtain ⟨a, c, h⟩ := h
  exact bad_any h
theorem left_r {w : World} {I : Nat} {L : List Int} {bad : Bool} (h : InL w I L bad) : Calls Try.prog 21 #[.pointer (some ⟨I, 0, none⟩)] w fun e w' => e = .returned (.int .i64 L.length) ∧ w' = w := by
  obtain ⟨a, c, h⟩ := h
  exact left_any h
theorem done_r {w : World} {I : Nat} {L : List Int} {bad : Bool} (h : InL w I L bad) : Calls Try.prog 23 #[.pointer (some ⟨I, 0, none⟩)] w fun e w' => e = .returned (.bool (!bad && decide (L = []))) ∧ w' = w := by
  obtain ⟨a, c, h⟩ := h
  have c1 : w.cell? ⟨I, 1, none⟩ = some (.bool bad) := by simp [World.cell?, h.box]
  have c0 : w.cell? ⟨I, 0, none⟩ = some (.slice a L.length c) := by simp [World.cell?, h.box]
  clear h
  cases bad with
  | true =>
    go_enter Try.func23, Try.ntmps23
    go_wp2_with fail
    go_ret
    exact ⟨by simp, rfl⟩
  | false =>
    cases L with
    | nil =>
      go_enter Try.func23, Try.ntmps23
      go_wp2_with fail
      go_ret
      exact ⟨by simp, rfl⟩
    | cons x t =>
      have hl : ¬ (((x :: t).length : Nat) : Int) = 0 := by simp; omega
      generalize hn : (x :: t).length = n at *
      go_enter Try.func23, Try.ntmps23
      go_wp2_with fail
      go_ret
      exact ⟨by simp; omega, rfl⟩

/-- What take gives, and leaves. -/
def rdT (L : List Int) (bad : Bool) (k : Int) : List Int × List Int × Bool := if bad = true ∨ k < 0 ∨ (L.length : Int) < k then ([], [], true) else (L.take k.toNat, L.drop k.toNat, false)

/-- A slice of bytes that was given. -/
def gives (w' : World) (M : List Int) (e : Ending) : Prop := ∃ a c, e = .returned (.slice a M.length c) ∧ IntsAt w' .u8 a M.length (gtD M) ∧ (a = none → M.length = 0)

set_option maxRecDepth 100000 in
theorem take_zero {w : World} {I : Nat} {L : List Int} (h : InL w I L false) :
    Calls Try.prog 69 #[.pointer (some ⟨I, 0, none⟩), .int .i64 0] w fun e w' => gives w' [] e ∧ rdLeft w I L false w' := by
  obtain ⟨a, c, h⟩ := h
  have hbn := h.ints.1
  have hroom := h.room
  have c0 : w.cell? ⟨I, 0, none⟩ = some (.slice a L.length c) := by simp [World.cell?, h.box]
  have c1 : w.cell? ⟨I, 1, none⟩ = some (.bool false) := by simp [World.cell?, h.box]
  have f0 : w.frozen? ⟨I, 0, none⟩ = false := by simp [World.frozen?, h.box]
  have hst := Lib.hid h
  cases a with
  | none =>
    obtain ⟨hL, rfl⟩ := h.nil rfl
    clear h hroom
    rw [hL] at c0 hbn
    go_enter Try.func69, Try.ntmps69
    go_wp2_with fail
    go_ret
    have hx := hst.out
    have hs := heap_setCell_same w I 0 _ _ (.slice none 0 0) hx.box
    refine ⟨⟨none, 0, rfl, ⟨by simp, fun hp => absurd hp (by simp)⟩, fun _ => rfl⟩, ?_, ⟨rfl, rfl, rfl, by simp, fun k hk hn => heap_setCell_other w ⟨I, 0, none⟩ k _ (fun e => hn (by rw [e]))⟩⟩
    have hlen : L = [] := List.eq_nil_of_length_eq_zero hL
    subst hlen
    exact ⟨none, 0, in_set hx hs ⟨by simp, fun hp => absurd hp (by simp)⟩ (fun k hk => heap_setCell_other w ⟨I, 0, none⟩ k _ hk) (by simp) (fun _ => ⟨rfl, rfl⟩) (Nat.le_refl _) (fun p e => by cases e) (fun j hj => absurd hj (by simp))⟩
  | some p =>
    by_cases hL : 0 < L.length
    · obtain ⟨b, o, e, hb, hc⟩ := h.ints.2 hL
      cases e
      have hn0 : ¬ (L.length : Int) < 0 := by omega
      clear h
      replace hc := Lib.hid hc
      go_enter Try.func69, Try.ntmps69
      go_wp2_with fail
      all_goals
        go_ret
        have hx := hst.out
        have hs := heap_setCell_same w I 0 _ _ (.slice (some ⟨b, o, none⟩) L.length c) hx.box
        refine ⟨⟨_, _, rfl, ⟨by simp, fun hp => absurd hp (by simp)⟩, fun _ => rfl⟩, ?_, ⟨rfl, rfl, rfl, by simp, fun k hk hn => heap_setCell_other w ⟨I, 0, none⟩ k _ (fun e => hn (by rw [e]))⟩⟩
        have hbI : ∀ i, i ≠ I → (w.setCell ⟨I, 0, none⟩ (.slice (some ⟨b, o, none⟩) L.length c)).heap[i]? = w.heap[i]? := fun i hi => heap_setCell_other w ⟨I, 0, none⟩ i _ hi
        exact ⟨_, c, in_set hx hs hx.ints hbI (by simp) (fun e => by cases e) (by omega) hx.far hx.wf⟩
    · have hL0 : L.length = 0 := by omega
      rw [hL0] at c0 hbn hroom
      obtain ⟨b, o, sp⟩ := p
      clear h
      go_enter Try.func69, Try.ntmps69
      go_wp2_with fail
      all_goals
        go_ret
        have hx := hst.out
        have hs := heap_setCell_same w I 0 _ _ (.slice (some ⟨b, o, sp⟩) 0 c) hx.box
        have hlen : L = [] := List.eq_nil_of_length_eq_zero hL0
        subst hlen
        refine ⟨⟨_, _, rfl, ⟨by simp, fun hp => absurd hp (by simp)⟩, fun _ => rfl⟩, ?_, ⟨rfl, rfl, rfl, by simp, fun k hk hn => heap_setCell_other w ⟨I, 0, none⟩ k _ (fun e => hn (by rw [e]))⟩⟩
        exact ⟨_, c, in_set hx hs hx.ints (fun k hk => heap_setCell_other w ⟨I, 0, none⟩ k _ hk) (by simp) (fun e => by cases e) hroom hx.far hx.wf⟩

theorem take_r {w : World} {I : Nat} {L : List Int} {bad : Bool} (h : InL w I L bad) (k : Int) :
    Calls Try.prog 69 #[.pointer (some ⟨I, 0, none⟩), .int .i64 k] w fun e w' => gives w' (rdT L bad k).1 e ∧ rdLeft w I (rdT L bad k).2.1 (rdT L bad k).2.2 w' := by
  by_cases hk : bad = true ∨ k < 0 ∨ (L.length : Int) < k
  · obtain ⟨a, c, h⟩ := h
    refine (take_bad h k hk).mono ?_
    rintro e w' ⟨rfl, hb⟩
    rw [show rdT L bad k = ([], [], true) from by unfold rdT; rw [if_pos hk]]
    exact ⟨⟨none, 0, rfl, ⟨by simp, fun hp => absurd hp (by simp)⟩, fun _ => rfl⟩, rd_bad hb⟩
  · have hb : bad = false := by cases bad <;> simp_all
    subst hb
    rw [show rdT L false k = (L.take k.toNat, L.drop k.toNat, false) from by unfold rdT; rw [if_neg hk]]
    obtain ⟨n, rfl⟩ := Int.eq_ofNat_of_zero_le (a := k) (by omega)
    by_cases h0 : n = 0
    · subst h0
      exact (take_zero h).mono fun e w' he => by simpa using he
    · obtain ⟨a, c, h⟩ := h
      refine (take_ok h (by omega) (Nat.pos_of_ne_zero h0)).mono ?_
      rintro e w' ⟨⟨a1, c1, rfl, hi⟩, ⟨a2, c2, h2⟩, hb, hs, _⟩
      have hl : (L.take n).length = n := by simp; omega
      refine ⟨⟨a1, c1, by simp only [Int.toNat_natCast, hl], ?_, ?_⟩, InL.of h2 (by simp) (fun j _ => (gtD_drop L n j).symm), grown_of hb hs⟩
      · simp only [Int.toNat_natCast, hl]
        exact ints_congr hi (fun j hj => (gtD_take hj).symm)
      · intro e
        obtain ⟨b, o, e2, _⟩ := hi.2 (Nat.pos_of_ne_zero h0)
        rw [e] at e2
        cases e2

theorem gtD_wf {w : World} {M : List Int} {e : Ending} (h : gives w M e) : M.length ≤ 9223372036854775807 := by
  obtain ⟨a, c, _, hi, _⟩ := h
  exact hi.1

/-- A slice of bytes that was given, in memory of its own. -/
def givesNew (base : Nat) (w' : World) (M : List Int) (e : Ending) : Prop := ∃ a c, e = .returned (.slice a M.length c) ∧ IntsAt w' .u8 a M.length (gtD M) ∧ (a = none → M.length = 0 ∧ c = 0) ∧ M.length ≤ c ∧ c ≤ maxLen ∧ ∀ p, a = some p → base ≤ p.block

theorem plain_r {w : World} {I : Nat} {L : List Int} {bad : Bool} (h : InL w I L bad) (k : Int) (hL : L.length ≤ 1000000) :
    Calls Try.prog 35 #[.pointer (some ⟨I, 0, none⟩), .int .i64 k] w fun e w' => givesNew w.heap.size w' (rdT L bad k).1 e ∧ rdLeft w I (rdT L bad k).2.1 (rdT L bad k).2.2 w' := by
  have H := Lib.hid (take_r h k)
  have hl : (rdT L bad k).1.length ≤ 1000000 := by
    unfold rdT
    split
    · simp
    · simp
      omega
  have hI := Lib.hid h.lt
  clear h
  generalize rdT L bad k = r at *
  obtain ⟨M, L', bad'⟩ := r
  simp only at H hl ⊢
  go_enter Try.func35, Try.ntmps35
  go_wp2_with fail
  refine H.out.mono ?_
  rintro e w1 ⟨⟨a, c, rfl, hi, ha⟩, h1, hg⟩
  have H59 := Lib.hid (bclone_any (c := c) hi ha (by omega))
  replace hi := Lib.hid hi
  replace ha := Lib.hid ha
  have h1 := Lib.hid h1
  replace hg := Lib.hid hg
  go_wp2_with fail
  refine H59.out.mono ?_
  rintro e w2 ⟨a2, c2, rfl, h3, h4, h5, h6, h7, h8⟩
  replace h3 := Lib.hid h3
  replace h4 := Lib.hid h4
  replace h7 := Lib.hid h7
  replace h8 := Lib.hid h8
  go_wp2_with fail
  go_ret
  have hs := hg.out.size
  exact ⟨⟨a2, c2, by simp, h3.out, h4.out, h5, h6, fun p e => Nat.le_trans hs (h7.out p e).1⟩, h1.out.keep h8.out, grown_trans hg.out (grown_of_below h8.out)⟩

/-- What a number and so many bytes are, and leave. -/
def rdB (L : List Int) (bad : Bool) : List Int × List Int × Bool := rdT (rdN L bad 2).2.1 (rdN L bad 2).2.2 (rdN L bad 2).1

theorem rdN_len (L : List Int) (bad : Bool) (k : Nat) : (rdN L bad k).2.1.length ≤ L.length := by
  unfold rdN
  split
  · simp
  · simp

theorem bytes_r {w : World} {I : Nat} {L : List Int} {bad : Bool} (h : InL w I L bad) (hL : L.length ≤ 1000000) :
    Calls Try.prog 34 #[.pointer (some ⟨I, 0, none⟩)] w fun e w' => givesNew w.heap.size w' (rdB L bad).1 e ∧ rdLeft w I (rdB L bad).2.1 (rdB L bad).2.2 w' := by
  have H := Lib.hid (u16_r h)
  have hl := rdN_len L bad 2
  unfold rdB
  clear h
  generalize rdN L bad 2 = r at *
  obtain ⟨x, L', bad'⟩ := r
  simp only at H hl ⊢
  generalize hR : rdT L' bad' x = R
  replace hR := Lib.hid hR
  go_enter Try.func34, Try.ntmps34
  go_wp2_with fail
  refine H.out.mono ?_
  rintro e w1 ⟨rfl, h1, hg⟩
  have H35 := plain_r h1 x (by omega)
  rw [hR.out] at H35
  replace H35 := Lib.hid H35
  replace hg := Lib.hid hg
  clear h1
  go_wp2_with fail
  refine H35.out.mono ?_
  rintro e w2 ⟨⟨a, c, rfl, h3, h4, h5, h6, h7⟩, h8, h9⟩
  replace h3 := Lib.hid h3
  replace h4 := Lib.hid h4
  replace h7 := Lib.hid h7
  replace h8 := Lib.hid h8
  replace h9 := Lib.hid h9
  go_wp2_with fail
  go_ret
  have hs := hg.out.size
  exact ⟨⟨a, c, by simp, h3.out, h4.out, h5, h6, fun p e => Nat.le_trans hs (h7.out p e)⟩, h8.out, grown_trans hg.out h9.out⟩

end Go.Proofs.Ytnkgbigjpihfeaa.Kd
