/-
  The rows of the table for slices that are appended to.
-/
import Derived.Test.YtahonnlgkmimlaaGraphB
import Derived.Test.YtahonnlgkmimlaaProg
namespace Go.Proofs.Ytahonnlgkmimlaa
open Go.RowKit
theorem Try.E27 : Elem Try.prog 27 3 (Data.size Int) 8 := elem_of (z := .int .i64 0) Try.underlying27 (by kernel_rfl) rfl (by decide)
end Go.Proofs.Ytahonnlgkmimlaa
