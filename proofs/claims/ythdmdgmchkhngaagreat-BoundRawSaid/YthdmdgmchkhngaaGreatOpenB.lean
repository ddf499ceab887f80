/- '[]api.Ins' and '[][]api.Ins' opened. -/
import Derived.Test.YthdmdgmchkhngaaGreatOpen
import Derived.Test.YthdmdgmchkhngaaGreatMkA
namespace Go.Proofs.YthdmdgmchkhngaaGreat
open Go.ChangeShapes Go.WideShapes Go.ChangeAt Go.RowKit Go.Deep

section
variable {H : Type} {enc : TypeId × Value → H} {w : World} {spare : Nat → Bool} {held : Bool}
set_option maxRecDepth 100000 in
theorem opens_ins : Opens enc Tryz.prog w spare held (insR w.heap.size) 61 :=
  opens_struct Tryz.underlying61 (by kernel_rfl) (opens_fields rfl (opens_int Tryz.underlying3) (by kernel_rfl) rfl (opens_field rfl (opens_int Tryz.underlying3) (by kernel_rfl)))
set_option maxRecDepth 100000 in
theorem opens_code : Opens enc Tryz.prog w spare held (codeR w.heap.size) 26 := opens_row Tryz.underlying26 (by kernel_rfl) (show 0 < 2 by decide) opens_ins
set_option maxRecDepth 100000 in
theorem opens_rows : Opens enc Tryz.prog w spare held (Repr.row 26 (codeR w.heap.size)) 25 := opens_row Tryz.underlying25 (by kernel_rfl) (show 0 < 1 by decide) opens_code
end
end Go.Proofs.YthdmdgmchkhngaaGreat
