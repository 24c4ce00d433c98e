/- Ints appended to a new empty list: the two 'Theirs'. -/
import Derived.Test.YtnkgbigjpihfeaaMc
import Derived.Maps.AppendAt
import Derived.Laws.AppendOwnNone
set_option linter.unusedVariables false
set_option linter.unusedSimpArgs false
namespace Go.Proofs.Ytnkgbigjpihfeaa.Ma
open Go.RowKit Go.Proofs.Ytnkgbigjpihfeaa.Lib

theorem info3 : (Try.prog.info? 3).map (fun i => (i.zero, i.size, i.bytes)) = some (some (.int .i64 0), 1, 8) := by kernel_rfl

/-- What 'append([]int{}, ..)' leaves. -/
def apPost (w : World) (g m : Nat) (F : Nat → Int) (v' : Value) (w' : World) : Prop :=
  ∃ a' c', v' = .slice a' m c' ∧ IntsAt w' .i64 a' m F ∧ (a' = none → m = 0) ∧ (∀ p, a' = some p → g ≤ p.block ∧ (p.block = g ∨ p.block = w.heap.size) ∧ p.block < w'.heap.size) ∧ m ≤ c' ∧ w.grownBy w' (some g)

theorem run_append_ints {w : World} (ty : TypeId) (g : Nat) (hg : w.heap[g]? = some (.cells #[] 3 (0, 0)))
    (ad : Option Addr) (m c : Nat) (F : Nat → Int) (hi : IntsAt w .i64 ad m F) (hn : ad = none → m = 0 ∧ c = 0) (hb : m ≤ 1000010) :
    ∃ v' w', (Builtin.append_ #[51, 51] ty #[.slice (some ⟨g, 0, none⟩) 0 0, .slice ad m c]).run Try.prog w = .ok v' w' ∧ apPost w g m F v' w' := by
  obtain ⟨i3, hi3, hz0, hz1, hz2⟩ := info_parts info3
  have hlt : g < w.heap.size := (Array.getElem?_eq_some_iff.1 hg).1
  have hown : w.ownsRow g 3 1 (.slice (some ⟨g, 0, none⟩) 0 0) 0 [] := ⟨by simp, .inr ⟨g, 0, #[], rfl, Nat.le_refl _, hg, Nat.le_refl _, by decide, rfl, by simp⟩⟩
  cases ad with
  | none =>
    obtain ⟨rfl, rfl⟩ := hn rfl
    exact ⟨_, w, run_append_owned_none w g 51 ty 3 i3 1 Try.underlying51 hi3 _ 0 [] hown, some ⟨g, 0, none⟩, 0, rfl, ⟨by omega, fun h => absurd h (by omega)⟩, (fun e => by cases e), (fun p e => by cases e; exact ⟨Nat.le_refl _, Or.inl rfl, hlt⟩), Nat.le_refl _, ⟨rfl, rfl, rfl, Nat.le_refl _, fun _ _ _ => rfl⟩⟩
  | some p =>
    have hcl : ∀ j u, (((List.range m).map F).map (Value.int .i64))[j]? = some u → w.cell? (p.add j) = some u := by
      intro j u hu
      have hj : j < m := by
        have := (List.getElem?_eq_some_iff.1 hu).1
        simpa using this
      obtain ⟨b, o, e, hb, hc⟩ := hi.2 (by omega)
      cases e
      have hadd : (⟨b, o, none⟩ : Addr).add j = ⟨b, o + j, none⟩ := by unfold Addr.add; split <;> simp_all
      rw [hadd, hc j hj]
      simp [hj] at hu
      rw [← hu]
    have h1c : ∀ u ∈ ((List.range m).map F).map (Value.int .i64), u.oneCell' = true := by
      intro u hu
      simp only [List.mem_map] at hu
      obtain ⟨z, _, rfl⟩ := hu
      rfl
    have hlb : (((List.range m).map F).map (Value.int .i64)).length = m * 1 := by simp
    obtain ⟨v', w', hr, h2, h3, h4, h5⟩ := run_append_own_at (P := Try.prog) w g 51 ty 3 i3 (.int .i64 0) 1 8 Try.underlying51 hi3 hz0 hz1 hz2 rfl (by decide) _ 0 [] hown p m c _ hlb hcl h1c (by unfold maxLen; omega) (by omega) (Nat.le_of_lt hlt)
    rw [Nat.zero_add, List.nil_append] at h2
    have h6 := h2.lt
    obtain ⟨a', c', rfl, j1, j2, j3, j4⟩ := own_ints h2
    refine ⟨_, w', hr, a', c', rfl, j1, j2, fun p e => ?_, j4, h3⟩
    subst e
    refine ⟨j3 p rfl, ?_, (h6 p.block rfl).2⟩
    rcases h5 with h5 | h5
    · exact Or.inl (by simpa [Value.ownBlock] using h5)
    · exact Or.inr (by simpa [Value.ownBlock] using h5)

theorem wpList_append_ints {w : World} {ops : Array Oper} {rest : List Oper} {o : Oper} {a : Act} {Q : Exit → Act → World → Prop} (hgd : o.guard = none) (s x : Operand)
    (ho : o.op = .call { callee := .builtin .append, args := #[s, x], argTypes := #[51, 51] }) (g : Nat) (hs : a.eval s = .slice (some ⟨g, 0, none⟩) 0 0) (hg : w.heap[g]? = some (.cells #[] 3 (0, 0)))
    (ad : Option Addr) (m c : Nat) (F : Nat → Int) (hx : a.eval x = .slice ad m c) (hi : IntsAt w .i64 ad m F) (hn : ad = none → m = 0 ∧ c = 0) (hb : m ≤ 1000010)
    (h : ∀ v' w', apPost w g m F v' w' → wpList Try.prog ops Q rest (a.put o.dst v') w') :
    wpList Try.prog ops Q (o :: rest) a w := by
  refine wpList_plain hgd fun K hK => ?_
  obtain ⟨v', w', hr, h2⟩ := run_append_ints o.type g hg ad m c F hi hn hb
  unfold Oper.wp execOp
  simp only [ho, resolve, invoke, builtin, Sem.run_bind, Sem.run_pure, Result.andThen_ok, List.map_toArray, List.map_cons, List.map_nil, hs, hx, hr]
  exact hK _ _ (h v' w' h2)

theorem step_append_ints {w : World} {ops : Array Oper} {o : Oper} {a : Act} {K : Act → World → Prop} {Q : Exit → Act → World → Prop} {E : Prop} (hgd : o.guard = none) (s x : Operand)
    (ho : o.op = .call { callee := .builtin .append, args := #[s, x], argTypes := #[51, 51] }) (g : Nat) (hs : a.eval s = .slice (some ⟨g, 0, none⟩) 0 0) (hg : w.heap[g]? = some (.cells #[] 3 (0, 0)))
    (ad : Option Addr) (m c : Nat) (F : Nat → Int) (hx : a.eval x = .slice ad m c) (hi : IntsAt w .i64 ad m F) (hn : ad = none → m = 0 ∧ c = 0) (hb : m ≤ 1000010)
    (h : ∀ v' w', apPost w g m F v' w' → K (a.put o.dst v') w') :
    if Region.wanted o (yielded ops a.tmps) = true then Oper.wp Try.prog o a w K Q else E := by
  have hw : Region.wanted o (yielded ops a.tmps) = true := by simp [Region.wanted, hgd]
  rw [if_pos hw]
  obtain ⟨v', w', hr, h2⟩ := run_append_ints o.type g hg ad m c F hi hn hb
  unfold Oper.wp execOp
  simp only [ho, resolve, invoke, builtin, Sem.run_bind, Sem.run_pure, Result.andThen_ok, List.map_toArray, List.map_cons, List.map_nil, hs, hx, hr]
  exact h v' w' h2

theorem alloc_at {w : World} {cs : Array Value} {t : TypeId} {g : Nat} (h : w.heap.size = g) : (w.alloc (.cells cs t)).heap[g]? = some (.cells cs t (0, 0)) := by subst h; exact heap_alloc_new _ _
theorem alloc_keep {w : World} {o x : Obj} {g : Nat} (h : w.heap[g]? = some x) : (w.alloc o).heap[g]? = some x := ((World.grownBy_alloc w o none).block g (Array.getElem?_eq_some_iff.1 h).1 (fun e => by cases e)).trans h
theorem info55 : (Try.prog.info? 55).map (·.size) = some 12 := by kernel_rfl

/-- What Theirs answers. -/
def theirsPost (k o r wn rm un gr dy ky : Int) (cr ys : Bool) (xn : Nat) (xF : Nat → Int) (w : World) (e : Ending) (w' : World) : Prop :=
  ∃ a' c', e = .returned (.agg #[.int .i64 k, .int .i64 o, (.slice a' xn c'), .int .i64 r, .int .i64 wn, .bool cr, .int .i64 rm, .int .i64 un, .int .i64 gr, .int .i64 dy, .int .i64 ky, .bool ys]) ∧ IntsAt w' .i64 a' xn xF ∧ (a' = none → xn = 0) ∧ xn ≤ c' ∧ Below w.heap.size w w'

set_option maxRecDepth 100000 in
set_option maxHeartbeats 1600000 in
theorem theirs15 (k o r wn rm un gr dy ky : Int) (cr ys : Bool) (xa : Option Addr) (xn xc : Nat) (xF : Nat → Int) (w : World) (h1 : IntsAt w .i64 xa xn xF) (ha : xa = none → xn = 0 ∧ xc = 0) (hn : xn ≤ 1000000) :
    Calls Try.prog 38 #[.agg #[.int .i64 k, .int .i64 o, .slice xa xn xc, .int .i64 r, .int .i64 wn, .bool cr, .int .i64 rm, .int .i64 un, .int .i64 gr, .int .i64 dy, .int .i64 ky, .bool ys]] w fun e w' => theirsPost k o r wn rm un gr dy ky cr ys xn xF w e w' := by
  have H1 : Hid (∀ w', Below w.heap.size w w' → IntsAt w' .i64 xa xn xF) := Lib.hid (fun w' hb => h1.below hb)
  replace ha := Lib.hid ha
  clear h1
  go_enter Try.func38, Try.ntmps38
  go_wp2_with (first
    | (at_builtin; generalize hw4 : World.alloc (World.alloc (World.alloc (World.alloc w _) _) _) _ = W4; have hE : W4.heap[w.heap.size + 1 + 1 + 1]? = some (.cells #[] 3 (0, 0)) := (by rw [← hw4]; exact alloc_at (by simp)); have hX : W4.heap[w.heap.size + 1 + 1]? = some (.cells #[.int .i64 k, .int .i64 o, .slice xa xn xc, .int .i64 r, .int .i64 wn, .bool cr, .int .i64 rm, .int .i64 un, .int .i64 gr, .int .i64 dy, .int .i64 ky, .bool ys] 55 (0, 0)) := (by rw [← hw4]; exact alloc_keep (alloc_at (by simp))); have hZ : W4.heap[w.heap.size + 1]? = some (.cells #[.int .i64 0, .int .i64 0, .slice none 0 0, .int .i64 0, .int .i64 0, .bool false, .int .i64 0, .int .i64 0, .int .i64 0, .int .i64 0, .int .i64 0, .bool false] 55 (0, 0)) := (by rw [← hw4]; exact alloc_keep (alloc_keep (alloc_at (by simp)))); have hb4 : Below w.heap.size w W4 := (by rw [← hw4]; exact ((((Below.refl _ _).alloc (Nat.le_refl _) _).alloc (by simp) _).alloc (by simp <;> omega) _).alloc (by simp <;> omega) _); clear hw4; refine wpList_append_ints rfl _ _ rfl (w.heap.size + 1 + 1 + 1) rfl hE xa xn xc xF rfl (H1.out _ hb4) ha.out (by omega) ?_; intro v' w5 hap; obtain ⟨a', c', rfl, j1, j2, j3, j4, j5⟩ := hap; have hlE := (Array.getElem?_eq_some_iff.1 hE).1; have hX5 := (j5.block (w.heap.size + 1 + 1) (by omega) (fun e => by injection e with e; omega)).trans hX; have hZ5 := (j5.block (w.heap.size + 1) (by omega) (fun e => by injection e with e; omega)).trans hZ; have hb5 : Below w.heap.size w w5 := hb4.trans ⟨j5.os, j5.tape, j5.output, j5.size, fun k hk => j5.block k (by omega) (fun e => by injection e with e; omega)⟩; have cX : w5.cell? ⟨w.heap.size + 1 + 1, 2, none⟩ = some (.slice xa xn xc) := (by simp [World.cell?, hX5]); have fX : w5.frozen? ⟨w.heap.size + 1 + 1, 2, none⟩ = false := (by simp [World.frozen?, hX5]); have hX6 := heap_setCell_same w5 (w.heap.size + 1 + 1) 2 _ _ (.slice a' xn c') hX5; have hZ6 := (heap_setCell_other w5 ⟨w.heap.size + 1 + 1, 2, none⟩ (w.heap.size + 1) (.slice a' xn c') (by show w.heap.size + 1 ≠ w.heap.size + 1 + 1; omega)).trans hZ5; have hb6 := hb5.setCell (p := ⟨w.heap.size + 1 + 1, 2, none⟩) (by show w.heap.size ≤ w.heap.size + 1 + 1; omega) (.slice a' xn c'); have i6 := ints_setcell (B := w.heap.size + 1 + 1) j1 (fun p e => by have := (j3 p e).1; omega) 2 (.slice a' xn c'); replace j2 := Lib.hid j2; replace j3 := Lib.hid j3; replace hb6 := Lib.hid hb6; replace i6 := Lib.hid i6; clear hX5 hZ5 hb5 j1 j5 hX hZ hE hlE hb4)
    | (refine wpList_load_row rfl 55 _ rfl (w.heap.size + 1 + 1) rfl 55 #[.int .i64 k, .int .i64 o, .slice a' xn c', .int .i64 r, .int .i64 wn, .bool cr, .int .i64 rm, .int .i64 un, .int .i64 gr, .int .i64 dy, .int .i64 ky, .bool ys] (0, 0) _ hX6 Try.underlying55 rfl info55 ?_)
    | (refine wpList_store_row rfl 55 _ _ rfl (w.heap.size + 1) #[.int .i64 k, .int .i64 o, .slice a' xn c', .int .i64 r, .int .i64 wn, .bool cr, .int .i64 rm, .int .i64 un, .int .i64 gr, .int .i64 dy, .int .i64 ky, .bool ys] rfl rfl 55 #[.int .i64 0, .int .i64 0, .slice none 0 0, .int .i64 0, .int .i64 0, .bool false, .int .i64 0, .int .i64 0, .int .i64 0, .int .i64 0, .int .i64 0, .bool false] hZ6 info55 rfl (by simp [Value.oneCell']) ?_))
  refine bodyPost_ret (results_cell_row (p := 2) (ty := 55) rfl _ _ (w.heap.size + 1) 55 #[.int .i64 k, .int .i64 o, .slice a' xn c', .int .i64 r, .int .i64 wn, .bool cr, .int .i64 rm, .int .i64 un, .int .i64 gr, .int .i64 dy, .int .i64 ky, .bool ys] (0, 0) _ (by rfl) (setRow_h _ _ _ _ _ _ hZ6) Try.underlying55 rfl info55) rfl ⟨a', c', rfl, ints_setrow i6.out (fun p e => by have := (j3.out p e).1; omega) _, j2.out, j4, below_setRow hb6.out _ _ (by omega)⟩

end Go.Proofs.Ytnkgbigjpihfeaa.Ma
