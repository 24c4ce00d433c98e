/- ledger.Total walked; the law LedgerTotals. -/
import Derived.Test.YteeiiahmhmbepaaLedB
import Derived.Test.YteeiiahmhmbepaaOpen
import Derived.LoopTactic
import Derived.StillTailTactics
set_option linter.unusedVariables false
namespace Go.Proofs.Yteeiiahmhmbepaa.Led
open Go.RowKit Go.Proofs.Yteeiiahmhmbepaa.Lib

/-- A list of postings that came in. -/
def PostsAt (w : World) (a : Option Addr) (len : Nat) (F T S : Nat → Int) : Prop :=
  len ≤ 9223372036854775807 ∧ (0 < len → ∃ b off, a = some ⟨b, off, none⟩ ∧ b < w.heap.size ∧ ∀ j, j < len → w.cell? ⟨b, off + j * 3, none⟩ = some (.int .i64 (F j)) ∧ w.cell? ⟨b, off + j * 3 + 1, none⟩ = some (.int .i64 (T j)) ∧ w.cell? ⟨b, off + j * 3 + 2, none⟩ = some (.int .i64 (S j)))

theorem PostsAt.below {w w1 : World} {a : Option Addr} {len : Nat} {F T S : Nat → Int} (h : PostsAt w a len F T S) (hb : Below w.heap.size w w1) : PostsAt w1 a len F T S := by
  refine ⟨h.1, fun hp => ?_⟩
  obtain ⟨b, off, e, hlt, hc⟩ := h.2 hp
  refine ⟨b, off, e, Nat.lt_of_lt_of_le hlt hb.size, fun j hj => ?_⟩
  obtain ⟨h1, h2, h3⟩ := hc j hj
  exact ⟨(hb.cell (p := ⟨b, off + j * 3, none⟩) hlt).trans h1, (hb.cell (p := ⟨b, off + j * 3 + 1, none⟩) hlt).trans h2, (hb.cell (p := ⟨b, off + j * 3 + 2, none⟩) hlt).trans h3⟩

section
variable {H : Type} {enc : TypeId × Value → H} {w : World} {base : Nat} {spare : Nat → Bool} {held : Bool}
theorem open_posts {r : Reach} {b0 : Nat} {v : Value} {d : DataW H} {p : List MemPlace} (hv : Value.okWide Try.prog w r b0 54 v) (h : DataW.Trod enc Try.prog w base spare held 54 v d p) :
    ∃ (a : Option Addr) (len cap : Nat) (F T S : Nat → Int), v = .slice a len cap ∧ PostsAt w a len F T S := by
  obtain ⟨a, len, cap, rfl⟩ := Go.WideShapes.okWide_slice Try.underlying54 hv
  obtain ⟨a', len', cap', e, h1, h2, h3, h4⟩ := (Leaf.of_Trod h rfl).slice (n := 3) (sz := 3) Try.underlying54 (by kernel_rfl) (by kernel_rfl) (by omega)
  obtain ⟨rfl, rfl, rfl⟩ := Value.slice.inj e
  have hm : len ≤ 9223372036854775807 := by unfold maxLen at h2; omega
  by_cases hp : 0 < len
  · obtain ⟨b, off, f, rfl, hb, hf⟩ := h4 hp
    obtain ⟨G, hG⟩ := Deep.choose_lt (n := len) (p := fun i (z : Int × Int × Int) => f i = [.int .i64 z.1, .int .i64 z.2.1, .int .i64 z.2.2]) (fun i hi => by
      obtain ⟨_, _, g3⟩ := hf i hi
      rw [show leaves Try.prog 3 58 = [3, 3, 2] from by kernel_rfl] at g3
      obtain ⟨x, r, e1, q1, g4⟩ := g3.cons
      obtain ⟨x2, r2, e2, q2, g5⟩ := g4.cons
      obtain ⟨x3, r3, e3, q3, g6⟩ := g5.cons
      have e4 := g6.nil
      subst e4 e3 e2
      obtain ⟨z, rfl, _⟩ := q1.int Try.underlying3
      obtain ⟨z2, rfl, _⟩ := q2.int Try.underlying3
      obtain ⟨z3, rfl, _⟩ := q3.int Try.underlying2
      exact ⟨(z, z2, z3), e1⟩)
    refine ⟨_, len, cap, fun j => (G j).1, fun j => (G j).2.1, fun j => (G j).2.2, rfl, ⟨hm, fun _ => ⟨b, off, rfl, hb, fun j hj => ?_⟩⟩⟩
    have g := (hf j hj).2.1
    rw [hG j hj] at g
    exact ⟨by simpa using g 0 (by omega), by simpa [Nat.add_assoc] using g 1 (by omega), by simpa [Nat.add_assoc] using g 2 (by omega)⟩
  · exact ⟨a, len, cap, fun _ => 0, fun _ => 0, fun _ => 0, rfl, ⟨hm, fun h => absurd h hp⟩⟩
end

theorem wrap_add (x y : Int) : wrap64 (wrap64 x + y) = wrap64 (x + y) := by unfold wrap64; omega

def tot (a b c d e : Int) : Int := wrap64 (a + b + c + d + e)

theorem total_any (a b c d e : Int) (w : World) (h0 : -9223372036854775808 ≤ a) (h1 : a ≤ 9223372036854775807) :
    Calls Try.prog 38 #[.agg #[.int .i64 a, .int .i64 b, .int .i64 c, .int .i64 d, .int .i64 e]] w fun r w' => r = .returned (.int .i64 (tot a b c d e)) ∧ Below w.heap.size w w' := by
  have i0 : ∀ w, (Instr.index 53 (.agg #[.int .i64 a, .int .i64 b, .int .i64 c, .int .i64 d, .int .i64 e]) (.int .i64 0)).run Try.prog w = .ok (.int .i64 a) w := fun _ => by kernel_rfl
  have i1 : ∀ w, (Instr.index 53 (.agg #[.int .i64 a, .int .i64 b, .int .i64 c, .int .i64 d, .int .i64 e]) (.int .i64 1)).run Try.prog w = .ok (.int .i64 b) w := fun _ => by kernel_rfl
  have i2 : ∀ w, (Instr.index 53 (.agg #[.int .i64 a, .int .i64 b, .int .i64 c, .int .i64 d, .int .i64 e]) (.int .i64 2)).run Try.prog w = .ok (.int .i64 c) w := fun _ => by kernel_rfl
  have i3 : ∀ w, (Instr.index 53 (.agg #[.int .i64 a, .int .i64 b, .int .i64 c, .int .i64 d, .int .i64 e]) (.int .i64 3)).run Try.prog w = .ok (.int .i64 d) w := fun _ => by kernel_rfl
  have i4 : ∀ w, (Instr.index 53 (.agg #[.int .i64 a, .int .i64 b, .int .i64 c, .int .i64 d, .int .i64 e]) (.int .i64 4)).run Try.prog w = .ok (.int .i64 e) w := fun _ => by kernel_rfl
  go_enter Try.func38, Try.ntmps38
  go_wp2
  refine wp_loop_rounds 6 ?_
  rw [rounds_succ]
  go_wp2
  rw [rounds_succ]
  go_wp2
  rw [rounds_succ]
  go_wp2
  rw [rounds_succ]
  go_wp2
  rw [rounds_succ]
  go_wp2
  rw [rounds_succ]
  go_wp2
  go_ret
  refine ⟨?_, (Below.refl _ _).alloc (Nat.le_refl _) _⟩
  simp [tot, wrap_add]
  done

end Go.Proofs.Yteeiiahmhmbepaa.Led
