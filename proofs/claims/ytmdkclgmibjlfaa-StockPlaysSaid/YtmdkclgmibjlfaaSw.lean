/- The stock: picked, seen, counted. -/
import Derived.Test.YtmdkclgmibjlfaaSv
import Derived.Deep.CutRange
import Derived.Deep.CutBlock
set_option linter.unusedVariables false
set_option linter.unusedSimpArgs false
namespace Go.Proofs.Ytmdkclgmibjlfaa.Ba
open Go.RowKit Go.Maps Go.Proofs.Ytmdkclgmibjlfaa.Mx Go.Proofs.Ytmdkclgmibjlfaa.Lib

theorem seen_any {w : World} {B : Nat} {v : Value} {E : Units} (h : StkAt w B v E) {j : Nat} (hj : j < E.length) : Calls Try.prog 21 #[.pointer (some ⟨B, 0, none⟩), .int .i64 j] w fun e w' => e = .returned (.tuple #[.bool (E.getD j d4).2.2.1, .bool (E.getD j d4).2.2.2]) ∧ ∃ q, w' = w.drewN q := by
  obtain ⟨a, c, rfl, hb, hq⟩ := h.opn
  obtain ⟨g, rfl, hg, hBg, q⟩ := hq j hj
  have cB : w.cell? ⟨B, 0, none⟩ = some (.slice (some ⟨g, 0, none⟩) E.length c) := by simp [World.cell?, h.box]
  have c2 := q.c2
  have c3 := q.c3
  have H46 := Lib.hid (has_any h j (Y := true) (Lib.hid (inR_nat hj)))
  have hj' : (j : Int) < E.length := by omega
  clear q hq
  generalize (E.getD j d4).2.2.1 = p at *
  generalize (E.getD j d4).2.2.2 = r at *
  go_enter Try.func21, Try.ntmps21
  go_wp2_with fail
  refine H46.out.mono ?_
  rintro e w1 ⟨rfl, rfl⟩
  go_wp2_with fail
  go_quiet (fail)
  go_wp2_with fail
  go_ret2
  exact ⟨rfl, _, rfl⟩

/-- How many units are in a place. -/
def fPl (place : Int) (p : Int × Int × Bool × Bool) : Int := if p.1 == place then 1 else 0

theorem totalP_bounds (place : Int) : ∀ E : Units, 0 ≤ total (fPl place) E ∧ total (fPl place) E ≤ E.length
  | [] => by simp [total]
  | p :: E => by
    have := totalP_bounds place E
    unfold total at this ⊢
    simp only [List.map_cons, List.sum_cons, List.length_cons, fPl] at this ⊢
    split <;> omega

theorem totalU_succ (f : Int × Int × Bool × Bool → Int) : ∀ (E : Units) (j : Nat), j < E.length → total f (E.take (j + 1)) = total f (E.take j) + f (E.getD j d4)
  | [], j, h => absurd h (by simp)
  | q :: E, 0, h => by simp [total]
  | q :: E, j + 1, h => by
    have ih := totalU_succ f E j (by simpa using h)
    unfold total at ih ⊢
    simp only [List.take_succ_cons, List.map_cons, List.sum_cons, List.getD_cons_succ]
    omega

set_option maxRecDepth 100000 in
theorem count_any {w : World} {B : Nat} {v : Value} {E : Units} (h : StkAt w B v E) (place : Int) : Calls Try.prog 20 #[.pointer (some ⟨B, 0, none⟩), .int .i64 place] w fun e w' => e = .returned (.int .i64 (total (fPl place) E)) ∧ Below w.heap.size w w' := by
  obtain ⟨a, c, rfl, hb, hq⟩ := h.opn
  have cB : w.cell? ⟨B, 0, none⟩ = some (.slice a E.length c) := by simp [World.cell?, h.box]
  have hq := Lib.hid hq
  have hEl : E.length ≤ 9223372036854775807 := hb
  have hfin := Lib.hid (show total (fPl place) (E.take E.length) = total (fPl place) E from by rw [List.take_length])
  go_enter Try.func20, Try.ntmps20
  go_wp2_with fail
  go_loopw [5, 15] (fun n i wr => ∃ k : Nat, k ≤ E.length ∧ i = .int .i64 k ∧ n = .int .i64 (total (fPl place) (E.take k)) ∧ Below w.heap.size w wr) (fun _ i _ => E.length - (intOf i).toNat)
  case atStart => exact ⟨0, Nat.zero_le _, rfl, rfl, Below.refl _ _⟩
  case round =>
    obtain ⟨k, hk, rfl, rfl, hbl⟩ := hrel
    by_cases hlt : k < E.length
    · obtain ⟨g, rfl, hg, hBg, q⟩ := hq.out k hlt
      have c0 := (hbl.cell (p := ⟨g, k * 4, none⟩) hg).trans q.c0
      have c1 := (hbl.cell (p := ⟨g, k * 4 + 1, none⟩) hg).trans q.c1
      have c2 := (hbl.cell (p := ⟨g, k * 4 + 2, none⟩) hg).trans q.c2
      have c3 := (hbl.cell (p := ⟨g, k * 4 + 3, none⟩) hg).trans q.c3
      have hlt' : (k : Int) < E.length := by omega
      have hts := totalU_succ (fPl place) E k hlt
      have hbd := totalP_bounds place (E.take k)
      have hlk := List.length_take_le k E
      replace hts := Lib.hid hts
      replace hbl := Lib.hid hbl
      have hbls := hbl.out.size
      clear q
      generalize hp : E.getD k d4 = p at *
      obtain ⟨p0, p1, p2, p3⟩ := p
      simp only at c0 c1 c2 c3
      generalize total (fPl place) (E.take k) = T at *
      have hw1 : wrap64 (T + 1) = T + 1 := by unfold wrap64; omega
      clear hp
      cases hpp : (p0 == place)
      · go_wp2_with fail
        go_roundw
        case rel => exact ⟨k + 1, by omega, by go_num, by rw [hts.out]; simp [fPl, hpp], hbl.out.alloc (by omega) _⟩
        case measure => simp [intOf]; omega
      · go_wp2_with fail
        go_roundw
        case rel => exact ⟨k + 1, by omega, by go_num, by rw [hts.out]; simp [fPl, hpp], hbl.out.alloc (by omega) _⟩
        case measure => simp [intOf]; omega
    · obtain rfl : k = E.length := by omega
      have hlt' : ¬ (E.length : Int) < E.length := by omega
      rw [hfin.out]
      go_wp2_with fail
      go_ret
      exact ⟨rfl, hbl⟩

/-- The first unit that may be picked. -/
def Picks (E : Units) (sku : Int) (pk : Option Nat) : Prop :=
  match pk with
  | none => ∀ j, j < E.length → ¬ ((E.getD j d4).1 = 3 ∧ (E.getD j d4).2.1 = sku)
  | some j => j < E.length ∧ (E.getD j d4).1 = 3 ∧ (E.getD j d4).2.1 = sku ∧ ∀ i, i < j → ¬ ((E.getD i d4).1 = 3 ∧ (E.getD i d4).2.1 = sku)

def picked (p : Int × Int × Bool × Bool) : Int × Int × Bool × Bool := (7, p.2.1, p.2.2.1, p.2.2.2)

/-- What Pick leaves. -/
def pickPost (w : World) (B : Nat) (v : Value) (E : Units) (pk : Option Nat) (e : Ending) (w' : World) : Prop :=
  (match pk with
   | none => e = .returned (.tuple #[.int .i64 0, .int .i64 14]) ∧ StkAt w' B v E
   | some j => e = .returned (.tuple #[.int .i64 j, .int .i64 0]) ∧ StkAt w' B v (E.set j (picked (E.getD j d4)))) ∧ Below (B + 1) w w'

theorem stk_picked {w : World} {B g c j : Nat} {E : Units} {p0 p1 : Int} {p2 p3 : Bool} (h : StkAt w B (.slice (some ⟨g, 0, none⟩) E.length c) E) (hj : j < E.length) (hBg : B < g) (hp : E.getD j d4 = (p0, p1, p2, p3)) :
    StkAt (w.setCell ⟨g, j * 4, none⟩ (.int .i64 7)) B (.slice (some ⟨g, 0, none⟩) E.length c) (E.set j (7, p1, p2, p3)) := by
  have r3 := (h.row.stored (j * 4) (.int .i64 7)).1
  refine ⟨(heap_setCell_other w ⟨g, j * 4, none⟩ B _ (by show B ≠ g; omega)).trans h.box, ?_⟩
  have h1 := cells4_at E j hj
  rw [hp] at h1
  rw [cells4_set E j _ hj]
  have e : ((((cells4 E).set (j * 4) (.int .i64 7)).set (j * 4 + 1) (.int .i64 p1)).set (j * 4 + 2) (.bool p2)).set (j * 4 + 3) (.bool p3) = (cells4 E).set (j * 4) (.int .i64 7) := by
    obtain ⟨_, h2, h3, h4⟩ := h1
    apply List.ext_getElem?
    intro i
    have l2 := (List.getElem?_eq_some_iff.1 h2)
    have l3 := (List.getElem?_eq_some_iff.1 h3)
    have l4 := (List.getElem?_eq_some_iff.1 h4)
    obtain ⟨l2, g2⟩ := l2
    obtain ⟨l3, g3⟩ := l3
    obtain ⟨l4, g4⟩ := l4
    simp only [List.getElem?_set, List.length_set]
    by_cases a3 : j * 4 + 3 = i
    · subst a3; simp [l4, g4]
    · by_cases a2 : j * 4 + 2 = i
      · subst a2; simp [l3, g3]
      · by_cases a1 : j * 4 + 1 = i
        · subst a1; simp [l2, g2]
        · simp [a1, a2, a3]
  rw [e]
  simpa using r3

set_option maxRecDepth 100000 in
set_option maxHeartbeats 1600000 in
theorem pick_any {w : World} {B : Nat} {v : Value} {E : Units} (h : StkAt w B v E) (sku : Int) {pk : Option Nat} (hpk : Hid (Picks E sku pk)) : Calls Try.prog 18 #[.pointer (some ⟨B, 0, none⟩), .int .i64 sku] w fun e w' => pickPost w B v E pk e w' := by
  obtain ⟨a, c, hv, hb, hq⟩ := h.opn
  have hst := Lib.hid h
  have hBl := h.lt
  have hbx := h.box
  rw [hv] at hbx
  have cB : w.cell? ⟨B, 0, none⟩ = some (.slice a E.length c) := by simp [World.cell?, hbx]
  replace hv := Lib.hid hv
  have hq := Lib.hid hq
  have hEl : E.length ≤ 9223372036854775807 := hb
  clear h hbx
  go_enter Try.func18, Try.ntmps18
  go_wp2_with fail
  go_loopw [15] (fun i wr => ∃ k : Nat, k ≤ E.length ∧ i = .int .i64 k ∧ Hid (∀ j, j < k → ¬ ((E.getD j d4).1 = 3 ∧ (E.getD j d4).2.1 = sku)) ∧ Hid (Below w.heap.size w wr)) (fun i _ => E.length - (intOf i).toNat)
  case atStart => exact ⟨0, Nat.zero_le _, rfl, Lib.hid (fun j hj => absurd hj (by omega)), Lib.hid (Below.refl _ _)⟩
  case round =>
    obtain ⟨k, hk, rfl, hno, hbl⟩ := hrel
    by_cases hlt : k < E.length
    · obtain ⟨g, rfl, hg, hBg, q⟩ := hq.out k hlt
      have c0 := (hbl.out.cell (p := ⟨g, k * 4, none⟩) hg).trans q.c0
      have c1 := (hbl.out.cell (p := ⟨g, k * 4 + 1, none⟩) hg).trans q.c1
      have c2 := (hbl.out.cell (p := ⟨g, k * 4 + 2, none⟩) hg).trans q.c2
      have c3 := (hbl.out.cell (p := ⟨g, k * 4 + 3, none⟩) hg).trans q.c3
      have f0 := (hbl.out.frozen (p := ⟨g, k * 4, none⟩) hg).trans (q.fr (k * 4))
      have cBr := (hbl.out.cell (p := ⟨B, 0, none⟩) hBl).trans cB
      have hlt' : (k : Int) < E.length := by omega
      have hbls := hbl.out.size
      have hmiss := Lib.hid (fun (h : ¬ ((E.getD k d4).1 = 3 ∧ (E.getD k d4).2.1 = sku)) => show ∀ j, j < k + 1 → ¬ ((E.getD j d4).1 = 3 ∧ (E.getD j d4).2.1 = sku) from fun j hj => by
        by_cases e : j = k
        · rw [e]; exact h
        · exact hno.out j (by omega))
      have hhit := Lib.hid (fun (h : (E.getD k d4).1 = 3 ∧ (E.getD k d4).2.1 = sku) => show pk = some k from by
        have hp := hpk.out
        cases pk with
        | none => exact absurd h (hp k hlt)
        | some j =>
          obtain ⟨h1, h2, h3, h4⟩ := hp
          rcases Nat.lt_trichotomy j k with hjk | hjk | hjk
          · exact absurd ⟨h2, h3⟩ (hno.out j hjk)
          · rw [hjk]
          · exact absurd h (h4 k hjk))
      clear q
      obtain ⟨p, hp⟩ : ∃ p, E.getD k d4 = p := ⟨_, rfl⟩
      rw [hp] at c0 c1 c2 c3 hmiss hhit
      obtain ⟨p0, p1, p2, p3⟩ := p
      simp only at c0 c1 c2 c3 hmiss hhit
      have hp := Lib.hid hp
      cases m0 : (p0 == 3)
      · have hm := Lib.hid (hmiss.out (fun h => by simp [h.1] at m0))
        go_wp2_with fail
        go_roundw
        case rel => exact ⟨k + 1, by omega, by go_num, hm, Lib.hid (hbl.out.alloc (by omega) _)⟩
        case measure => simp [intOf]; omega
      · cases m1 : (p1 == sku)
        · have hm := Lib.hid (hmiss.out (fun h => by simp [h.2] at m1))
          go_wp2_with fail
          go_roundw
          case rel => exact ⟨k + 1, by omega, by go_num, hm, Lib.hid (hbl.out.alloc (by omega) _)⟩
          case measure => simp [intOf]; omega
        · have hh := Lib.hid (hhit.out ⟨by simpa using m0, by simpa using m1⟩)
          go_upto_region 7 with fail
          have hba := Lib.hid ((Below.refl wr.heap.size wr).alloc (Nat.le_refl _) (.cells #[.int .i64 p0, .int .i64 p1, .bool p2, .bool p3] 80))
          have d0 := (hba.out.cell (p := ⟨B, 0, none⟩) (by show B < _; omega)).trans cBr
          have d1 := (hba.out.cell (p := ⟨g, k * 4, none⟩) (by show g < _; omega)).trans c0
          have d2 := (hba.out.frozen (p := ⟨g, k * 4, none⟩) (by show g < _; omega)).trans f0
          have hbl2 := Lib.hid (hbl.out.trans (hba.out.mono hbls))
          clear c0 c1 c2 c3 f0 cBr hba
          generalize wr.alloc (.cells #[.int .i64 p0, .int .i64 p1, .bool p2, .bool p3] 80) = wx at *
          go_wp2_with fail
          go_ret2
          have hh := hh.out
          subst hh
          have hvv := hv.out
          subst hvv
          refine ⟨⟨by simp, ?_⟩, ?_⟩
          · rw [hp.out]
            exact stk_picked (hst.out.keep hbl2.out) hlt hBg hp.out
          · exact (hbl2.out.mono (by omega)).setCell (p := ⟨g, k * 4, none⟩) (by show B + 1 ≤ g; omega) _
    · obtain rfl : k = E.length := by omega
      have hlt' : ¬ (E.length : Int) < E.length := by omega
      go_wp2_with fail
      go_ret2
      cases pk with
      | none => exact ⟨⟨rfl, hst.out.keep hbl.out⟩, hbl.out.mono (by omega)⟩
      | some j =>
        obtain ⟨h1, h2, h3, h4⟩ := hpk.out
        exact absurd ⟨h2, h3⟩ (hno.out j h1)

end Go.Proofs.Ytmdkclgmibjlfaa.Ba
