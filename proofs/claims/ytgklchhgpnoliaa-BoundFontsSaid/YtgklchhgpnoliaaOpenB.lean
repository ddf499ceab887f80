/- '[]api.Ins' and '[][]api.Ins' opened. -/
import Derived.Test.YtgklchhgpnoliaaOpen
import Derived.Test.YtgklchhgpnoliaaReprs
namespace Go.Proofs.Ytgklchhgpnoliaa
open Go.ChangeShapes Go.WideShapes Go.ChangeAt Go.RowKit Go.Deep

section
variable {H : Type} {enc : TypeId × Value → H} {w : World} {spare : Nat → Bool} {held : Bool}
set_option maxRecDepth 100000 in
theorem opens_ins : Opens enc Try.prog w spare held (insR w.heap.size) 25 :=
  opens_struct Try.underlying25 (by kernel_rfl) (opens_fields rfl (opens_int Try.underlying3) (by kernel_rfl) rfl (opens_field rfl (opens_int Try.underlying3) (by kernel_rfl)))
set_option maxRecDepth 100000 in
theorem opens_code : Opens enc Try.prog w spare held (codeR w.heap.size) 22 := opens_row Try.underlying22 (by kernel_rfl) (show 0 < 2 by decide) opens_ins
set_option maxRecDepth 100000 in
theorem opens_rows : Opens enc Try.prog w spare held (Repr.row 22 (codeR w.heap.size)) 34 := opens_row Try.underlying34 (by kernel_rfl) (show 0 < 1 by decide) opens_code
end
end Go.Proofs.Ytgklchhgpnoliaa
