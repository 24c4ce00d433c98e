/- The codec's reader: bytes taken. -/
import Derived.Test.YtnkgbigjpihfeaaKd
set_option linter.unusedVariables false
set_option linter.unusedSimpArgs false
namespace Go.Proofs.Ytnkgbigjpihfeaa.Kd
open Go.RowKit Go.Proofs.Ytnkgbigjpihfeaa.Lib

/-- Block I is a reader; these bytes are left. -/
structure InAt (w : World) (I : Nat) (a : Option Addr) (n c : Nat) (F : Nat → Int) (bad : Bool) : Prop where
  box : w.heap[I]? = some (.cells #[.slice a n c, .bool bad] 85 (0, 0))
  ints : IntsAt w .u8 a n F
  nil : a = none → n = 0 ∧ c = 0
  room : n ≤ c
  far : ∀ p, a = some p → p.block ≠ I
  wf : ∀ j, j < n → 0 ≤ F j ∧ F j < 256

theorem InAt.lt {w : World} {I : Nat} {a : Option Addr} {n c : Nat} {F : Nat → Int} {bad : Bool} (h : InAt w I a n c F bad) : I < w.heap.size := (Array.getElem?_eq_some_iff.1 h.box).1
theorem InAt.keep {w w' : World} {I : Nat} {a : Option Addr} {n c : Nat} {F : Nat → Int} {bad : Bool} (h : InAt w I a n c F bad) (hb : Below w.heap.size w w') : InAt w' I a n c F bad :=
  ⟨(hb.block I h.lt).trans h.box, h.ints.below hb, h.nil, h.room, h.far, h.wf⟩

/-- What NewIn leaves. -/
def newInPost (w : World) (n : Nat) (F : Nat → Int) (e : Ending) (w' : World) : Prop := ∃ I a c, e = .returned (.pointer (some ⟨I, 0, none⟩)) ∧ InAt w' I a n c F false ∧ w.heap.size ≤ I ∧ (∀ p, a = some p → w.heap.size ≤ p.block) ∧ Below w.heap.size w w'

theorem newIn_any {w : World} {a : Option Addr} {n c : Nat} {F : Nat → Int} (h : IntsAt w .u8 a n F) (ha : a = none → n = 0) (hn : n ≤ 140737488355328) (hF : ∀ j, j < n → 0 ≤ F j ∧ F j < 256) :
    Calls Try.prog 16 #[.slice a n c] w fun e w' => newInPost w n F e w' := by
  have H := Lib.hid (bclone_any (c := c) h ha hn)
  replace hF := Lib.hid hF
  clear h ha
  go_enter Try.func16, Try.ntmps16
  go_wp2_with fail
  refine H.out.mono ?_
  rintro e w1 ⟨a', c', rfl, hi, hnil, hc, _, hp, hb⟩
  have hi := Lib.hid hi
  have hb := Lib.hid hb
  have hp := Lib.hid hp
  replace hnil := Lib.hid hnil
  go_wp2_with fail
  go_ret
  have hs := hb.out.size
  refine ⟨w1.heap.size, a', c', by simp, ⟨heap_alloc_new _ _, hi.out.below ((Below.refl _ _).alloc (Nat.le_refl _) _), hnil.out, hc, fun p e => by have := (hp.out p e).2; omega, hF.out⟩, hs, fun p e => (hp.out p e).1, hb.out.alloc hs _⟩

theorem bad_any {w : World} {I : Nat} {a : Option Addr} {n c : Nat} {F : Nat → Int} {bad : Bool} (h : InAt w I a n c F bad) : Calls Try.prog 19 #[.pointer (some ⟨I, 0, none⟩)] w fun e w' => e = .returned (.bool bad) ∧ w' = w := by
  have c1 : w.cell? ⟨I, 1, none⟩ = some (.bool bad) := by simp [World.cell?, h.box]
  go_enter Try.func19, Try.ntmps19
  go_wp2_with fail
  go_ret
  exact ⟨rfl, rfl⟩
theorem left_any {w : World} {I : Nat} {a : Option Addr} {n c : Nat} {F : Nat → Int} {bad : Bool} (h : InAt w I a n c F bad) : Calls Try.prog 21 #[.pointer (some ⟨I, 0, none⟩)] w fun e w' => e = .returned (.int .i64 n) ∧ w' = w := by
  have c1 : w.cell? ⟨I, 0, none⟩ = some (.slice a n c) := by simp [World.cell?, h.box]
  go_enter Try.func21, Try.ntmps21
  go_wp2_with fail
  go_ret
  exact ⟨rfl, rfl⟩

theorem in_set {w : World} {I : Nat} {a : Option Addr} {n c : Nat} {F : Nat → Int} {bad : Bool} (h : InAt w I a n c F bad) {a2 : Option Addr} {n2 c2 : Nat} {F2 : Nat → Int} {bad2 : Bool} {w' : World} (hw : w'.heap[I]? = some (.cells #[.slice a2 n2 c2, .bool bad2] 85 (0, 0)))
    (hi : IntsAt w .u8 a2 n2 F2) (hb : ∀ k, k ≠ I → w'.heap[k]? = w.heap[k]?) (hsz : w.heap.size ≤ w'.heap.size) (hnil : a2 = none → n2 = 0 ∧ c2 = 0) (hr : n2 ≤ c2) (hf : ∀ p, a2 = some p → p.block ≠ I) (hF : ∀ j, j < n2 → 0 ≤ F2 j ∧ F2 j < 256) : InAt w' I a2 n2 c2 F2 bad2 := by
  refine ⟨hw, ⟨hi.1, fun hp => ?_⟩, hnil, hr, hf, hF⟩
  obtain ⟨b, o, rfl, hlt, hc⟩ := hi.2 hp
  exact ⟨b, o, rfl, by omega, fun j hj => (World.cell?_of_block (a := ⟨b, o + j, none⟩) (hb b (hf _ rfl))).trans (hc j hj)⟩

/-- What fail leaves. -/
def badPost (w : World) (I : Nat) (w' : World) : Prop := InAt w' I none 0 0 (fun _ => 0) true ∧ Below I w w' ∧ (∀ k, k ≠ I → w'.heap[k]? = w.heap[k]?) ∧ w'.heap.size = w.heap.size

theorem bad_set {w : World} {I : Nat} {a : Option Addr} {n c : Nat} {F : Nat → Int} {bad : Bool} (h : InAt w I a n c F bad) : badPost w I ((w.setCell ⟨I, 0, none⟩ (.slice none 0 0)).setCell ⟨I, 1, none⟩ (.bool true)) := by
  have h1 := heap_setCell_same w I 0 _ _ (.slice none 0 0) h.box
  have h2 := heap_setCell_same _ I 1 _ _ (.bool true) h1
  have hb : ∀ k, k ≠ I → ((w.setCell ⟨I, 0, none⟩ (.slice none 0 0)).setCell ⟨I, 1, none⟩ (.bool true)).heap[k]? = w.heap[k]? := fun k hk => (heap_setCell_other _ ⟨I, 1, none⟩ k _ hk).trans (heap_setCell_other w ⟨I, 0, none⟩ k _ hk)
  refine ⟨in_set h h2 ⟨by omega, fun h => absurd h (by omega)⟩ hb (by simp) (fun _ => ⟨rfl, rfl⟩) (Nat.le_refl _) (fun p h => by cases h) (fun j hj => absurd hj (by omega)), ?_, hb, by simp⟩
  exact ((Below.refl _ _).setCell (p := ⟨I, 0, none⟩) (Nat.le_refl _) _).setCell (p := ⟨I, 1, none⟩) (Nat.le_refl _) _

theorem fail_any {w : World} {I : Nat} {a : Option Addr} {n c : Nat} {F : Nat → Int} {bad : Bool} (h : InAt w I a n c F bad) : Calls Try.prog 60 #[.pointer (some ⟨I, 0, none⟩)] w fun e w' => e = .returned (.tuple #[]) ∧ badPost w I w' := by
  have c0 : w.cell? ⟨I, 0, none⟩ = some (.slice a n c) := by simp [World.cell?, h.box]
  have c1 : w.cell? ⟨I, 1, none⟩ = some (.bool bad) := by simp [World.cell?, h.box]
  have f0 : w.frozen? ⟨I, 0, none⟩ = false := by simp [World.frozen?, h.box]
  have f1 : w.frozen? ⟨I, 1, none⟩ = false := by simp [World.frozen?, h.box]
  have hs := Lib.hid (bad_set h)
  clear h
  go_enter Try.func60, Try.ntmps60
  go_wp2_with fail
  go_end0
  exact ⟨rfl, hs.out⟩

/-- What take leaves, where there are so many. -/
def takePost (w : World) (I : Nat) (n : Nat) (F : Nat → Int) (k : Nat) (e : Ending) (w' : World) : Prop :=
  (∃ a1 c1, e = .returned (.slice a1 k c1) ∧ IntsAt w' .u8 a1 k F) ∧ (∃ a2 c2, InAt w' I a2 (n - k) c2 (fun j => F (k + j)) false) ∧ Below I w w' ∧ (∀ i, i ≠ I → w'.heap[i]? = w.heap[i]?) ∧ w'.heap.size = w.heap.size

theorem take_end {w : World} {I b o n c k o2 c2 : Nat} {F : Nat → Int} (hx : InAt w I (some ⟨b, o, none⟩) n c F false) (hk : k ≤ n) (hk0 : 0 < k) (hb : b < w.heap.size) (hc : ∀ j, j < n → w.cell? ⟨b, o + j, none⟩ = some (.int .u8 (F j)))
    (h2 : o2 = o + k ∧ c2 = c - k ∨ n - k = 0 ∧ c2 = 0) : takePost w I n F k (.returned (.slice (some ⟨b, o, none⟩) k k)) (w.setCell ⟨I, 0, none⟩ (.slice (some ⟨b, o2, none⟩) (n - k) c2)) := by
  have hbn := hx.ints.1
  have hroom := hx.room
  have h1 := heap_setCell_same w I 0 _ _ (.slice (some ⟨b, o2, none⟩) (n - k) c2) hx.box
  have hbI : ∀ i, i ≠ I → (w.setCell ⟨I, 0, none⟩ (.slice (some ⟨b, o2, none⟩) (n - k) c2)).heap[i]? = w.heap[i]? := fun i hi => heap_setCell_other w ⟨I, 0, none⟩ i _ hi
  have hbne := hx.far _ rfl
  refine ⟨⟨_, _, rfl, ⟨by omega, fun _ => ⟨b, o, rfl, by simpa using hb, fun j hj => (World.cell?_of_block (a := ⟨b, o + j, none⟩) (hbI b hbne)).trans (hc j (by omega))⟩⟩⟩, ⟨some ⟨b, o2, none⟩, c2, ?_⟩, (Below.refl _ _).setCell (p := ⟨I, 0, none⟩) (Nat.le_refl _) _, hbI, by simp⟩
  refine in_set hx h1 ⟨by omega, fun hp => ⟨b, o2, rfl, hb, fun j hj => ?_⟩⟩ hbI (by simp) (fun e => by cases e) (by omega) (fun p e => by cases e; exact hbne) (fun j hj => hx.wf _ (by omega))
  have := hc (k + j) (by omega)
  rcases h2 with ⟨rfl, _⟩ | ⟨h3, _⟩
  · rw [show o + k + j = o + (k + j) from by omega]
    exact this
  · omega

set_option maxRecDepth 100000 in
theorem take_ok {w : World} {I : Nat} {a : Option Addr} {n c k : Nat} {F : Nat → Int} (h : InAt w I a n c F false) (hk : k ≤ n) (hk0 : 0 < k) :
    Calls Try.prog 69 #[.pointer (some ⟨I, 0, none⟩), .int .i64 k] w fun e w' => takePost w I n F k e w' := by
  have hbn := h.ints.1
  obtain ⟨b, o, rfl, hb, hc⟩ := h.ints.2 (by omega)
  have hroom := h.room
  have c0 : w.cell? ⟨I, 0, none⟩ = some (.slice (some ⟨b, o, none⟩) n c) := by simp [World.cell?, h.box]
  have c1 : w.cell? ⟨I, 1, none⟩ = some (.bool false) := by simp [World.cell?, h.box]
  have f0 : w.frozen? ⟨I, 0, none⟩ = false := by simp [World.frozen?, h.box]
  have hk1 : ¬ (k : Int) < 0 := by omega
  have hk2 : ¬ (n : Int) < k := by omega
  have hk3 : (k : Int) ≤ n := by omega
  have hk4 : (k : Int) ≤ c := by omega
  have hst := Lib.hid h
  replace hc := Lib.hid hc
  clear h
  go_enter Try.func69, Try.ntmps69
  go_wp2_with fail
  all_goals
    go_ret
    have hx := hst.out
    have hr := hx.room
    exact take_end hx hk hk0 hb hc.out (by omega)

theorem take_bad {w : World} {I : Nat} {a : Option Addr} {n c : Nat} {F : Nat → Int} {bad : Bool} (h : InAt w I a n c F bad) (k : Int) (hk : bad = true ∨ k < 0 ∨ (n : Int) < k) :
    Calls Try.prog 69 #[.pointer (some ⟨I, 0, none⟩), .int .i64 k] w fun e w' => e = .returned (.slice none 0 0) ∧ badPost w I w' := by
  have c0 : w.cell? ⟨I, 0, none⟩ = some (.slice a n c) := by simp [World.cell?, h.box]
  have c1 : w.cell? ⟨I, 1, none⟩ = some (.bool bad) := by simp [World.cell?, h.box]
  have H60 := Lib.hid (fail_any h)
  have hk3 : bad = true ∨ bad = false ∧ k < 0 ∨ bad = false ∧ ¬ k < 0 ∧ (n : Int) < k := by
    cases bad
    · by_cases h0 : k < 0
      · exact Or.inr (Or.inl ⟨rfl, h0⟩)
      · refine Or.inr (Or.inr ⟨rfl, h0, ?_⟩)
        rcases hk with h1 | h1 | h1
        · cases h1
        · omega
        · exact h1
    · exact Or.inl rfl
  clear h hk
  rcases hk3 with rfl | ⟨rfl, h0⟩ | ⟨rfl, h0, h1⟩
  all_goals
    go_enter Try.func69, Try.ntmps69
    go_wp2_with fail
    refine H60.out.mono ?_
    rintro e w1 ⟨rfl, hb⟩
    have hb := Lib.hid hb
    go_wp2_with fail
    go_ret
    exact ⟨rfl, hb.out⟩

/-- What the first k bytes are, the least first. -/
def leV (F : Nat → Int) : Nat → Int
  | 0 => 0
  | k + 1 => leV F k + F k * 256 ^ k

theorem leV_bounds {F : Nat → Int} : ∀ {k : Nat}, (∀ j, j < k → 0 ≤ F j ∧ F j < 256) → 0 ≤ leV F k ∧ leV F k < 256 ^ k
  | 0, _ => by simp [leV]
  | k + 1, h => by
    have ih := leV_bounds (k := k) (fun j hj => h j (by omega))
    have hk := h k (by omega)
    have hp : (0 : Int) < 256 ^ k := Int.pow_pos (by decide)
    simp only [leV]
    have h1 : 0 ≤ F k * 256 ^ k := Int.mul_nonneg hk.1 (Int.le_of_lt hp)
    have h2 : F k * 256 ^ k ≤ 255 * 256 ^ k := Int.mul_le_mul_of_nonneg_right (by omega) (Int.le_of_lt hp)
    have h3 : (256 : Int) ^ (k + 1) = 256 * 256 ^ k := by rw [Int.pow_succ, Int.mul_comm]
    omega

/-- What number leaves. -/
def inNumPost (w : World) (I n : Nat) (F : Nat → Int) (k : Nat) (e : Ending) (w' : World) : Prop :=
  e = .returned (.int .u64 (leV F k)) ∧ (∃ a2 c2, InAt w' I a2 (n - k) c2 (fun j => F (k + j)) false) ∧ Below I w w' ∧ (∀ i, i ≠ I → w'.heap[i]? = w.heap[i]?) ∧ w'.heap.size = w.heap.size

theorem or_mul (a b i m : Nat) (hm : m = 2 ^ i) (h : a < m) : a ||| (b * m) = b * m + a := by
  subst hm
  rw [Nat.or_comm, ← Nat.shiftLeft_eq, Nat.shiftLeft_add_eq_or_of_lt h]

theorem or_step {F : Nat → Int} {j : Nat} (hj : j < 8) (h : ∀ i, i < j + 1 → 0 ≤ F i ∧ F i < 256) :
    bits BinOp.or IntKind.u64 (leV F j) (IntKind.u64.wrap (IntKind.u64.wrap (F j) * 2 ^ (8 * j))) = leV F (j + 1) := by
  have hl := leV_bounds (F := F) (k := j) (fun i hi => h i (by omega))
  have hb := leV_bounds (F := F) (k := j + 1) h
  have hF := h j (by omega)
  have hp : (2 : Int) ^ (8 * j) = 256 ^ j := by rw [Int.pow_mul]; rfl
  have e256 : (256 : Int) ^ j ≤ 256 ^ 7 := by
    have : j = 0 ∨ j = 1 ∨ j = 2 ∨ j = 3 ∨ j = 4 ∨ j = 5 ∨ j = 6 ∨ j = 7 := by omega
    rcases this with rfl | rfl | rfl | rfl | rfl | rfl | rfl | rfl <;> decide
  have hpos : (0 : Int) < 256 ^ j := Int.pow_pos (by decide)
  have hm1 : 0 ≤ F j * 256 ^ j := Int.mul_nonneg hF.1 (Int.le_of_lt hpos)
  have hm2 : F j * 256 ^ j ≤ 255 * 256 ^ j := Int.mul_le_mul_of_nonneg_right (by omega) (Int.le_of_lt hpos)
  have hlit : (256 : Int) ^ 7 = 72057594037927936 := by decide
  have w1 : IntKind.u64.wrap (F j) = F j := by rw [IntKind.wrap_u64]; omega
  rw [w1, hp]
  have w2 : IntKind.u64.wrap (F j * 256 ^ j) = F j * 256 ^ j := by
    rw [IntKind.wrap_u64]
    exact Int.emod_eq_of_lt hm1 (by omega)
  rw [w2]
  simp only [leV]
  have hpn : 256 ^ j = 2 ^ (8 * j) := by rw [Nat.pow_mul]
  have hcast : (256 : Int) ^ j = ((256 ^ j : Nat) : Int) := by simp
  rw [hcast] at hl hm1 hm2 e256 ⊢
  clear hb hpos hp hcast w1 w2
  generalize leV F j = V at *
  generalize F j = f0 at *
  generalize 256 ^ j = P at *
  obtain ⟨v, rfl⟩ := Int.eq_ofNat_of_zero_le hl.1
  obtain ⟨f, rfl⟩ := Int.eq_ofNat_of_zero_le hF.1
  have e1 : ((f : Int) * (P : Int)) = ((f * P : Nat) : Int) := by simp
  rw [e1] at hm2 ⊢
  rw [u64_or_nat v (f * P) (by omega) (by omega), or_mul v f (8 * j) P hpn (by omega)]
  omega

set_option maxRecDepth 100000 in
theorem number_ok {w : World} {I : Nat} {a : Option Addr} {n c k : Nat} {F : Nat → Int} (h : InAt w I a n c F false) (hk : k ≤ n) (hk0 : 0 < k) (hk8 : k ≤ 8) :
    Calls Try.prog 61 #[.pointer (some ⟨I, 0, none⟩), .int .i64 k] w fun e w' => inNumPost w I n F k e w' := by
  have H69 := Lib.hid (take_ok h hk hk0)
  have hwf := Lib.hid h.wf
  clear h
  go_enter Try.func61, Try.ntmps61
  go_wp2_with fail
  refine H69.out.mono ?_
  rintro e w1 ⟨⟨a1, c1, rfl, hi⟩, hrest⟩
  have hi := Lib.hid hi
  replace hrest := Lib.hid hrest
  go_wp2_with fail
  go_loopw [5, 12] (fun v i wr => ∃ j : Nat, j ≤ k ∧ i = .int .i64 j ∧ v = .int .u64 (leV F j) ∧ wr = w1) (fun _ i _ => k - (intOf i).toNat)
  case atStart => exact ⟨0, Nat.zero_le _, rfl, rfl, rfl⟩
  case round =>
    obtain ⟨j, hj, rfl, rfl, rfl⟩ := hrel
    by_cases hlt : j < k
    · obtain ⟨b, o, rfl, hb, hc⟩ := hi.out.2 (by omega)
      have cj := hc j hlt
      replace hc := Lib.hid hc
      have hlt' : (j : Int) < k := by omega
      have ho := or_step (F := F) (j := j) (by omega) (fun i hi => hwf.out i (by omega))
      go_wp2_with fail
      exact ⟨⟨j + 1, by omega, by go_num, by first | rfl | rw [ho], by trivial⟩, by simp [intOf]; omega⟩
    · obtain rfl : j = k := by omega
      have hlt' : ¬ (j : Int) < j := by omega
      go_wp2_with fail
      go_ret
      exact ⟨rfl, hrest.out⟩

end Go.Proofs.Ytnkgbigjpihfeaa.Kd
