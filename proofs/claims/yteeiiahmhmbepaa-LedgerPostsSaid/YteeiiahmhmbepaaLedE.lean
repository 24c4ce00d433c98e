/- '==' of two ledgers, and of two arrays of five numbers, that are the same. -/
import Derived.Test.YteeiiahmhmbepaaLed
set_option linter.unusedVariables false
namespace Go.Proofs.Yteeiiahmhmbepaa.Led
open Go.RowKit

theorem eq53 (a b c d e : Int) (k : Nat) (w : World) : (Op.equalIn (k + 2) 53 (.agg #[.int .i64 a, .int .i64 b, .int .i64 c, .int .i64 d, .int .i64 e]) (.agg #[.int .i64 a, .int .i64 b, .int .i64 c, .int .i64 d, .int .i64 e])).run Try.prog w = .ok true w := by
  have hs : ∀ w, (sizeOf 2).run Try.prog w = .ok 1 w := fun w => by kernel_rfl
  have hp : ∀ (cs : Array Value) (i : Nat) (v : Value) (w : World), cs[i]? = some v → (part 2 cs i).run Try.prog w = .ok v w := fun cs i v w h => by
    have ha : ∀ w, (isAgg 2).run Try.prog w = .ok false w := fun w => by kernel_rfl
    simp [part, Sem.run_bind, ha, h]
  simp only [Op.equalIn, Sem.run_bind, run_underlying Try.underlying53, Result.andThen_ok, hs]
  simp [Std.Legacy.Range.forIn_eq_forIn_range', List.range', hp]

theorem eq56 (a b c d e : Int) (k : Nat) (w : World) : (Op.equalIn (k + 3) 56 (.agg #[.int .i64 a, .int .i64 b, .int .i64 c, .int .i64 d, .int .i64 e]) (.agg #[.int .i64 a, .int .i64 b, .int .i64 c, .int .i64 d, .int .i64 e])).run Try.prog w = .ok true w := by
  rw [run_equalIn_agg w (k + 2) 56 _ _ (by kernel_rfl) (by kernel_rfl)]
  have hp : ∀ w, (part 53 #[.int .i64 a, .int .i64 b, .int .i64 c, .int .i64 d, .int .i64 e] 0).run Try.prog w = .ok (.agg #[.int .i64 a, .int .i64 b, .int .i64 c, .int .i64 d, .int .i64 e]) w := fun w => by kernel_rfl
  simp [Program.fieldsOf, Try.underlying56, Op.eqFields, Sem.run_bind, hp, eq53]

theorem eql56 (a b c d e : Int) (w : World) : (binOp .eql 56 (.agg #[.int .i64 a, .int .i64 b, .int .i64 c, .int .i64 d, .int .i64 e]) (.agg #[.int .i64 a, .int .i64 b, .int .i64 c, .int .i64 d, .int .i64 e])).run Try.prog w = .ok (.bool true) w := by
  rw [run_eql_struct, show (10000 : Nat) = 9997 + 3 from rfl, eq56]
  rfl
theorem neq56 (a b c d e : Int) (w : World) : (binOp .neq 56 (.agg #[.int .i64 a, .int .i64 b, .int .i64 c, .int .i64 d, .int .i64 e]) (.agg #[.int .i64 a, .int .i64 b, .int .i64 c, .int .i64 d, .int .i64 e])).run Try.prog w = .ok (.bool false) w := by
  rw [run_neq_struct, show (10000 : Nat) = 9997 + 3 from rfl, eq56]
  rfl
theorem neq53 (a b c d e : Int) (w : World) : (binOp .neq 53 (.agg #[.int .i64 a, .int .i64 b, .int .i64 c, .int .i64 d, .int .i64 e]) (.agg #[.int .i64 a, .int .i64 b, .int .i64 c, .int .i64 d, .int .i64 e])).run Try.prog w = .ok (.bool false) w := by
  rw [run_neq_struct, show (10000 : Nat) = 9998 + 2 from rfl, eq53]
  rfl

end Go.Proofs.Yteeiiahmhmbepaa.Led
