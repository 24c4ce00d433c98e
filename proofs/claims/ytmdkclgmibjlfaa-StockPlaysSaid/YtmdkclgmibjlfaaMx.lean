/- Maps keyed by ints as lists of entries: what a map that was filled by puts has, how many keys, and what a range over it sums up; over whatever program. -/
import Derived.Maps.RangeWalk
import Derived.Maps.OwnSet
import Derived.WalkKit
import Derived.Lib.Hide
set_option linter.unusedVariables false
namespace Go.Proofs.Ytmdkclgmibjlfaa.Mx
open Go.RowKit Go.Maps

theorem snoc_ind {α : Type} {P : List α → Prop} (h0 : P []) (h1 : ∀ l a, P l → P (l ++ [a])) (l : List α) : P l := by
  rw [← l.reverse_reverse]
  induction l.reverse with
  | nil => exact h0
  | cons a r ih => rw [List.reverse_cons]; exact h1 _ _ ih

section
variable {V : Type} (mk : V → Value) (enc : V → DataW Unit)

/-- How an element reads: a value of the form 'mk x' as 'enc x'. -/
noncomputable def rdR (v : Value) : Option (DataW Unit × List MemPlace) :=
  open Classical in if h : ∃ x, v = mk x then some (enc h.choose, []) else none

theorem rdR_mk (hmk : ∀ x y, mk x = mk y → x = y) (x : V) : rdR mk enc (mk x) = some (enc x, []) := by
  unfold rdR
  have h : ∃ y, mk x = mk y := ⟨x, rfl⟩
  rw [dif_pos h]
  have := hmk _ _ h.choose_spec
  rw [← this]

theorem rdR_inv {v : Value} {z : DataW Unit × List MemPlace} (h : rdR mk enc v = some z) : ∃ x, v = mk x ∧ z.1 = enc x := by
  unfold rdR at h
  split at h
  · rename_i hx
    cases h
    exact ⟨hx.choose, hx.choose_spec, rfl⟩
  · cases h

/-- The map that these puts, one behind the other, make. -/
def ent (es : List (Int × V)) : DataW Unit := es.foldl (fun D p => D.put (.int .i64 p.1) (enc p.2)) (.map [])

theorem ent_snoc (es : List (Int × V)) (k : Int) (x : V) : ent enc (es ++ [(k, x)]) = (ent enc es).put (.int .i64 k) (enc x) := by
  simp [ent, List.foldl_append]

theorem isKey_int (k : Int) : WideAt.IsKeyLit (.int .i64 k) := trivial

theorem tidy_foldl : ∀ (es : List (Int × V)) (D : DataW Unit), Tidy D → Tidy (es.foldl (fun D p => D.put (.int .i64 p.1) (enc p.2)) D)
  | [], _, h => h
  | p :: es, D, h => tidy_foldl es _ (h.put (isKey_int _) _)

theorem tidy_ent (es : List (Int × V)) : Tidy (ent enc es) := tidy_foldl enc es _ tidy_empty

theorem isMap_ent (es : List (Int × V)) : IsMap (ent enc es) := (tidy_ent enc es).isMap

def keyIn (es : List (Int × V)) (k : Int) : Bool := es.any (fun p => p.1 == k)

theorem keyIn_snoc (es : List (Int × V)) (k k' : Int) (x : V) : keyIn (es ++ [(k, x)]) k' = (keyIn es k' || k == k') := by simp [keyIn]

theorem lit_ne {a b : Int} (h : a ≠ b) : (Lit.int .i64 a) ≠ (Lit.int .i64 b) := by
  intro e; injection e with _ e; exact h e

theorem has_foldl (k : Int) : ∀ (es : List (Int × V)) (D : DataW Unit), IsMap D → has (es.foldl (fun D p => D.put (.int .i64 p.1) (enc p.2)) D) (.int .i64 k) = (has D (.int .i64 k) || keyIn es k)
  | [], D, h => by simp [keyIn]
  | p :: es, D, h => by
    rw [List.foldl_cons, has_foldl k es _ (h.put _ _)]
    by_cases hk : p.1 = k
    · subst hk
      rw [has_put_same h (isKey_int _)]
      simp [keyIn]
    · rw [has_put_other (lit_ne (fun e => hk e.symm))]
      have : (p.1 == k) = false := by simpa using hk
      simp [keyIn, this]

theorem has_ent (es : List (Int × V)) (k : Int) : has (ent enc es) (.int .i64 k) = keyIn es k := by
  unfold ent
  rw [has_foldl enc k es _ isMap_empty]
  simp [has]

/-- No key stands twice. -/
def Once (es : List (Int × V)) : Prop := es.Pairwise (fun p q => p.1 ≠ q.1)

theorem Once.snoc {es : List (Int × V)} (h : Once es) {k : Int} (hk : keyIn es k = false) (x : V) : Once (es ++ [(k, x)]) := by
  unfold Once
  rw [List.pairwise_append]
  refine ⟨h, List.pairwise_singleton _ _, fun p hp q hq => ?_⟩
  simp at hq
  subst hq
  intro e
  have : keyIn es k = true := List.any_eq_true.2 ⟨p, hp, by simpa using e⟩
  rw [hk] at this
  cases this

theorem Once.front {es : List (Int × V)} {p : Int × V} (h : Once (es ++ [p])) : Once es ∧ keyIn es p.1 = false := by
  unfold Once at h
  rw [List.pairwise_append] at h
  refine ⟨h.1, ?_⟩
  cases hc : keyIn es p.1 with
  | false => rfl
  | true =>
    obtain ⟨q, hq, e⟩ := List.any_eq_true.1 hc
    exact absurd (by simpa using e) (h.2.2 q hq p (by simp))

theorem atKey_ent {k : Int} {x : V} (z : DataW Unit) : ∀ (es : List (Int × V)), Once es → (k, x) ∈ es → (ent enc es).atKey (.int .i64 k) z = enc x := by
  intro es
  induction es using snoc_ind with
  | h0 => intro _ h; simp at h
  | h1 es p ih =>
    intro ho hm
    obtain ⟨h1, h2⟩ := ho.front
    obtain ⟨pk, px⟩ := p
    rw [ent_snoc]
    rcases List.mem_append.1 hm with h | h
    · have : k ≠ pk := by
        intro e
        subst e
        have : keyIn es k = true := List.any_eq_true.2 ⟨_, h, by simp⟩
        simp only at h2
        rw [h2] at this
        cases this
      rw [atKey_put_other (lit_ne this)]
      exact ih h1 h
    · simp at h
      obtain ⟨rfl, rfl⟩ := h
      exact atKey_put_same (isMap_ent enc es) (isKey_int _) _ _

theorem size_ent : ∀ (es : List (Int × V)), Once es → size (ent enc es) = es.length := by
  intro es
  induction es using snoc_ind with
  | h0 => intro _; rfl
  | h1 es p ih =>
    intro ho
    obtain ⟨h1, h2⟩ := ho.front
    obtain ⟨pk, px⟩ := p
    rw [ent_snoc, size_put (tidy_ent enc es), has_ent, h2, ih h1]
    simp

theorem mem_of_keyIn {es : List (Int × V)} {k : Int} (h : keyIn es k = true) : ∃ x, (k, x) ∈ es := by
  obtain ⟨p, hp, e⟩ := List.any_eq_true.1 h
  have e : p.1 = k := by simpa using e
  subst e
  exact ⟨p.2, hp⟩

theorem Once.same {es : List (Int × V)} (h : Once es) {k : Int} {x y : V} (hx : (k, x) ∈ es) (hy : (k, y) ∈ es) : x = y := by
  induction es with
  | nil => simp at hx
  | cons p es ih =>
    obtain ⟨h1, h2⟩ := List.pairwise_cons.1 h
    rcases List.mem_cons.1 hx with ex | hx'
    · rcases List.mem_cons.1 hy with ey | hy'
      · rw [← ey] at ex; injection ex
      · exact absurd (by rw [← ex]) (h1 _ hy')
    · rcases List.mem_cons.1 hy with ey | hy'
      · exact absurd (by rw [← ey]) (h1 _ hx')
      · exact ih h2 hx' hy'

/-- What the entries that are no longer to come make, summed up. -/
def gone (f : Int × V → Int) (left : Lit → Bool) (es : List (Int × V)) : Int := (es.map (fun p => if left (.int .i64 p.1) then 0 else f p)).sum
def total (f : Int × V → Int) (es : List (Int × V)) : Int := (es.map f).sum

theorem gone_end (f : Int × V → Int) {left : Lit → Bool} (h : ∀ kl, left kl = false) (es : List (Int × V)) : gone f left es = total f es := by
  simp [gone, total, h]

theorem gone_start (f : Int × V → Int) (es : List (Int × V)) : gone f (has (ent enc es)) es = 0 := by
  have : ∀ p ∈ es, (if has (ent enc es) (.int .i64 p.1) then 0 else f p) = 0 := by
    intro p hp
    rw [has_ent]
    have : keyIn es p.1 = true := List.any_eq_true.2 ⟨p, hp, by simp⟩
    simp [this]
  unfold gone
  rw [List.map_congr_left this]
  clear this
  induction es with
  | nil => rfl
  | cons p es ih => simpa using ih

theorem sameKey_int (a b : Int) : (Lit.int .i64 a).sameKey (.int .i64 b) = (a == b) := by
  by_cases h : a = b
  · subst h; simp [WideAt.sameKey_self (isKey_int a)]
  · have e : (a == b) = false := by simpa using h
    rw [e]
    exact sameKey_ne (lit_ne h)

theorem gone_other (f : Int × V → Int) (left : Lit → Bool) (k : Int) : ∀ (es : List (Int × V)), keyIn es k = false → gone f (fun z => left z && !z.sameKey (.int .i64 k)) es = gone f left es
  | [], _ => rfl
  | p :: es, h => by
    simp [keyIn] at h
    have ih := gone_other f left k es (by simpa [keyIn] using h.2)
    unfold gone at ih ⊢
    rw [List.map_cons, List.map_cons, List.sum_cons, List.sum_cons, ih]
    have : (p.1 == k) = false := by simpa using h.1
    simp [sameKey_int, this]

theorem gone_strike (f : Int × V → Int) {left : Lit → Bool} {k : Int} {x : V} (hl : left (.int .i64 k) = true) : ∀ (es : List (Int × V)), Once es → (k, x) ∈ es →
    gone f (fun z => left z && !z.sameKey (.int .i64 k)) es = gone f left es + f (k, x)
  | [], _, h => by simp at h
  | p :: es, ho, h => by
    obtain ⟨h1, h2⟩ := List.pairwise_cons.1 ho
    rcases List.mem_cons.1 h with e | h'
    · subst e
      have hno : keyIn es k = false := by
        cases hc : keyIn es k with
        | false => rfl
        | true =>
          obtain ⟨q, hq, e⟩ := List.any_eq_true.1 hc
          exact absurd (by simpa using e : q.1 = k).symm (h1 q hq)
      have ih := gone_other f left k es hno
      unfold gone at ih ⊢
      rw [List.map_cons, List.map_cons, List.sum_cons, List.sum_cons, ih]
      simp [sameKey_int, hl]
      omega
    · have ih := gone_strike f hl es h2 h'
      unfold gone at ih ⊢
      rw [List.map_cons, List.map_cons, List.sum_cons, List.sum_cons, ih]
      have : p.1 ≠ k := fun e => h1 _ h' e
      have : (p.1 == k) = false := by simpa using this
      simp [sameKey_int, this]
      omega

theorem gone_bounds (f : Int × V → Int) (left : Lit → Bool) : ∀ (es : List (Int × V)), (∀ p ∈ es, 0 ≤ f p) → 0 ≤ gone f left es ∧ gone f left es ≤ total f es
  | [], _ => by simp [gone, total]
  | p :: es, h => by
    have ih := gone_bounds f left es (fun q hq => h q (by simp [hq]))
    have hp := h p (by simp)
    unfold gone total at ih ⊢
    rw [List.map_cons, List.map_cons, List.sum_cons, List.sum_cons]
    split <;> omega
end

/-- An entry that the range hands out stands in the list. -/
theorem mem_of_hat {V : Type} {enc : V → DataW Unit} (henc : ∀ x y, enc x = enc y → x = y) (hnil : ∀ x, enc x ≠ .nil) {es : List (Int × V)} (ho : Once es) {k : Int} {x : V} (hat : ∀ zd, (ent enc es).atKey (.int .i64 k) zd = enc x) : (k, x) ∈ es := by
  cases hk : keyIn es k with
  | false =>
    have := hat .nil
    rw [atKey_of_not_has (by rw [has_ent]; exact hk)] at this
    exact absurd this.symm (hnil x)
  | true =>
    obtain ⟨y, hy⟩ := mem_of_keyIn hk
    have := hat .nil
    rw [atKey_ent enc _ es ho hy] at this
    rw [← henc _ _ this]
    exact hy

/-- THE STEP of a range over such a map: nothing is left, or some entry comes. -/
theorem wpList_next_ent {V : Type} {mk : V → Value} {enc : V → DataW Unit} (hmk : ∀ x y, mk x = mk y → x = y) (henc : ∀ x y, enc x = enc y → x = y) (hnil : ∀ x, enc x ≠ .nil)
    {P : Program} (w : World) {ops : Array Oper} {rest : List Oper} {o : Oper} {a : Act} {Q : Exit → Act → World → Prop}
    (hg : o.guard = none) (it : Operand) (hop : o.op = Op.next it false) (k : TypeId) (K : Keyed P k) (hk : P.underlying k = some (.int .i64)) (b r n : Nat) {es : List (Int × V)} (ho : Once es) (left : Lit → Bool) (cnt : Nat)
    (hit : a.eval it = .pointer (some ⟨r, 0, none⟩)) (h : w.ranges P k (rdR mk enc) b r n (ent enc es) left cnt)
    (hDone : Hid (∀ kl, left kl = false) → wpList P ops Q rest (a.put o.dst (.tuple #[.bool false])) w)
    (hMore : ∀ (x : Int) (c : V) (w' : World) (cnt' : Nat), Hid ((x, c) ∈ es) → Hid (left (.int .i64 x) = true) → Hid (w'.ranges P k (rdR mk enc) b r n (ent enc es) (fun z => left z && !z.sameKey (.int .i64 x)) cnt') → Hid (cnt' < cnt) →
      Hid (w.grownBy w' (some r)) → Hid (w'.heap.size = w.heap.size) → (Instr.entry (.pointer (some ⟨r, 0, none⟩))).run P w' = .ok (.tuple #[.int .i64 x, mk c]) w' → wpList P ops Q rest (a.put o.dst (.tuple #[.bool true, .int .i64 x, mk c])) w') :
    wpList P ops Q (o :: rest) a w := by
  refine wpList_next_ranges w hg it hop k K (rdR mk enc) (Value.int .i64) mk (fun key kl hkey => ?_) (fun v y hv => ?_) b r n _ left cnt hit h (fun _ hl => hDone (Lib.hid hl)) (fun x c kl y w' cnt' hkey hlk hv hat hrg hlt hgr hsz hen => ?_)
  · obtain ⟨x, rfl, _⟩ := Maps.keyOf_int_inv hk hkey
    exact ⟨x, rfl⟩
  · obtain ⟨x, hx, _⟩ := rdR_inv mk enc hv
    exact ⟨x, hx⟩
  · obtain ⟨x', ex, rfl, _⟩ := Maps.keyOf_int_inv hk hkey
    cases ex
    rw [rdR_mk mk enc hmk] at hv
    cases hv
    exact hMore x c w' cnt' (Lib.hid (mem_of_hat henc hnil ho hat)) (Lib.hid hlk) (Lib.hid hrg) (Lib.hid hlt) (Lib.hid hgr) (Lib.hid hsz) hen

end Go.Proofs.Ytmdkclgmibjlfaa.Mx
