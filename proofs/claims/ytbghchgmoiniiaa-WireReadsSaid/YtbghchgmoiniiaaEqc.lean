/-
  Two configs compared. Conditions: none beyond those stated at each theorem.
-/
import Derived.Test.YtbghchgmoiniiaaCfg
import Derived.Laws.StructEq
namespace Go.Proofs.Ytbghchgmoiniiaa
open Go.RowKit
set_option linter.unusedVariables false
set_option linter.unusedSimpArgs false

def cfgEq (b r d m s b' r' d' m' s' : Int) : Bool := decide (b = b' ∧ r = r' ∧ d = d' ∧ m = m' ∧ s = s')
theorem eqCfg (b r d m s b' r' d' m' s' : Int) (w : World) : (Op.equalIn 10000 36 (.agg #[.int .i64 b, .int .i64 r, .int .i64 d, .int .i64 m, .int .u64 s]) (.agg #[.int .i64 b', .int .i64 r', .int .i64 d', .int .i64 m', .int .u64 s'])).run Try.prog w = .ok (cfgEq b r d m s b' r' d' m' s') w := by
  have u3 := Try.underlying3
  have u4 := Try.underlying34
  have a3 : ∀ w, (isAgg 3).run Try.prog w = .ok false w := fun w => by unfold isAgg; rw [Sem.run_bind, run_underlying Try.underlying3 w]; rfl
  have a4 : ∀ w, (isAgg 34).run Try.prog w = .ok false w := fun w => by unfold isAgg; rw [Sem.run_bind, run_underlying Try.underlying34 w]; rfl
  have hS : Try.prog.underlying 36 = some (.struct (Try.prog.fieldsOf 36)) := by kernel_rfl
  have hp : Try.prog.stoodInHeld 36 = false := by kernel_rfl
  rw [show (10000 : Nat) = 9999 + 1 from rfl, run_equalIn_agg w 9999 36 _ _ hS hp]
  simp only [Program.fieldsOf, Try.underlying36]
  go_simp
  unfold cfgEq
  by_cases h1 : b = b' <;> by_cases h2 : r = r' <;> by_cases h3 : d = d' <;> by_cases h4 : m = m' <;> by_cases h5 : s = s' <;> simp [h1, h2, h3, h4, h5]
end Go.Proofs.Ytbghchgmoiniiaa
