/-
  The words of the document's example; the words of any line, both ways. Plain Lean, and one call.
-/
import Derived.Test.YtbdgelipabndaaaWalkW5
import Derived.Test.YtbdgelipabndaaaWalkW4
set_option linter.unusedSimpArgs false
set_option linter.unusedVariables false
namespace Go.Proofs.Ytbdgelipabndaaa
open Go.RowKit

abbrev awL : List (Int × ByteArray) := [(1, ⟨#[97, 98]⟩), (5, ⟨#[99]⟩)]
theorem awL_eq : wordsB ⟨#[32, 97, 98, 32, 32, 99]⟩ = awL := by kernel_rfl
theorem aw_split (o : Orig) : Calls Try.prog 10 [.string ⟨#[32, 97, 98, 32, 32, 99]⟩].toArray o.w (Giv o (fun S v w' => Rd S w' v awL)) := by
  rw [← awL_eq]
  exact split_any _ o (by decide)
end Go.Proofs.Ytbdgelipabndaaa
