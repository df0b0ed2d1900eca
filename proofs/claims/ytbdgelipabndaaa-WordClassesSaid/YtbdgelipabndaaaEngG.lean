/-
  More forms of steps. No program in sight.
-/
import Derived.Test.YtbdgelipabndaaaEngF
set_option linter.unusedSimpArgs false
set_option linter.unusedVariables false
namespace Go.Proofs.Ytbdgelipabndaaa
open Go.RowKit

theorem max_ok {P : Program} {ats : Array TypeId} {k : IntKind} {a b : Int} (ty : TypeId) (w : World) : (Builtin.max_ ats ty [.int k a, .int k b].toArray).run P w = .ok (.int k (max a b)) w := by
  have e : (if b > a then b else a) = max a b := by split <;> omega
  simp [Builtin.max_, Builtin.max2, e]
theorem min_ok {P : Program} {ats : Array TypeId} {k : IntKind} {a b : Int} (ty : TypeId) (w : World) : (Builtin.min_ ats ty [.int k a, .int k b].toArray).run P w = .ok (.int k (min a b)) w := by
  have e : (if b < a then b else a) = min a b := by split <;> omega
  simp [Builtin.min_, Builtin.min2, e]
end Go.Proofs.Ytbdgelipabndaaa
