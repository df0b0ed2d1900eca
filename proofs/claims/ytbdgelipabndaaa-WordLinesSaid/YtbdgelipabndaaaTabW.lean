/-
  What the program's table of types says of the slices that are appended to.
-/
import Derived.Test.YtbdgelipabndaaaProg
import Derived.Test.YtbdgelipabndaaaEngE
namespace Go.Proofs.Ytbdgelipabndaaa
open Go.RowKit
theorem Try.E23 : Elem Try.prog 23 26 (Data.size (Int × ByteArray)) 24 := elem_of (z := .agg #[.int .i64 0, .string ⟨#[]⟩]) Try.underlying23 (by kernel_rfl) rfl (by decide)
theorem Try.E29 : Elem Try.prog 29 32 (Data.size (Int × Int)) 16 := elem_of (z := .agg #[.int .i64 0, .int .i64 0]) Try.underlying29 (by kernel_rfl) rfl (by decide)
theorem Try.E47 : Elem Try.prog 47 3 (Data.size Int) 8 := elem_of (z := .int .i64 0) Try.underlying47 (by kernel_rfl) rfl (by decide)
end Go.Proofs.Ytbdgelipabndaaa
