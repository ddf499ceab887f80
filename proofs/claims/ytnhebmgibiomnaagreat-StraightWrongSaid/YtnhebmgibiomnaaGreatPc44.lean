/- Parts of the proof, joined: OpenB OpenS OpenT. -/
import Derived.Test.YtnhebmgibiomnaaGreatPc35
import Derived.Test.YtnhebmgibiomnaaGreatPc43
set_option linter.unusedVariables false
set_option linter.unusedSimpArgs false
namespace Go.Proofs.YtnhebmgibiomnaaGreat
open Go.ChangeShapes Go.WideShapes Go.ChangeAt Go.RowKit Go.Deep
section
variable {H : Type} {enc : TypeId × Value → H} {w : World} {spare : Nat → Bool} {held : Bool}
set_option maxRecDepth 100000 in
theorem opens_ins : Opens enc Tryz.prog w spare held (insR w.heap.size) 96 :=
  opens_struct Tryz.underlying96 (by kernel_rfl) (opens_fields rfl (opens_int Tryz.underlying3) (by kernel_rfl) rfl (opens_field rfl (opens_int Tryz.underlying3) (by kernel_rfl)))
set_option maxRecDepth 100000 in
theorem opens_code : Opens enc Tryz.prog w spare held (codeR w.heap.size) 24 := opens_row Tryz.underlying24 (by kernel_rfl) (show 0 < 2 by decide) opens_ins
set_option maxRecDepth 100000 in
theorem opens_rows : Opens enc Tryz.prog w spare held (Repr.row 24 (codeR w.heap.size)) 23 := opens_row Tryz.underlying23 (by kernel_rfl) (show 0 < 1 by decide) opens_code
end
end Go.Proofs.YtnhebmgibiomnaaGreat
namespace Go.Proofs.YtnhebmgibiomnaaGreat
open Go.ChangeShapes Go.WideShapes Go.ChangeAt Go.RowKit Go.Deep Mc
def progR (N0 : Nat) : Repr N0 (List (List (Int × Int)) × List (Int × Int) × List Int × Int) := Repr.pair (Repr.row 24 (codeR N0)) (Repr.pair (codeR N0) (Repr.pair (Repr.row 3 Repr.int) Repr.int))
section
variable {H : Type} {enc : TypeId × Value → H} {w : World} {spare : Nat → Bool} {held : Bool}
set_option maxRecDepth 100000 in
theorem opens_prog : Opens enc Tryz.prog w spare held (progR w.heap.size) 26 :=
  opens_struct Tryz.underlying26 (by kernel_rfl) (opens_fields rfl opens_rows (by kernel_rfl) rfl (opens_fields rfl opens_code (by kernel_rfl) rfl (opens_fields rfl opens_nums (by kernel_rfl) rfl (opens_field rfl (opens_int Tryz.underlying3) (by kernel_rfl)))))
end
end Go.Proofs.YtnhebmgibiomnaaGreat
namespace Go.Proofs.YtnhebmgibiomnaaGreat
open Go.ChangeShapes Go.WideShapes Go.ChangeAt Go.RowKit Go.Deep Mc
section
variable {H : Type} {enc : TypeId × Value → H} {w : World} {spare : Nat → Bool} {held : Bool}
theorem prog_open2 {fuel : Nat} {cs : List Value} {x : DataW H × List MemPlace} (h : DataW.trod enc Tryz.prog w 0 spare held fuel 26 cs = some x) :
    ∃ (ll : List (List (Int × Int))) (l : List (Int × Int)) (cvt : List Int) (size : Int) (A Am cA : Option Addr) (c cm cc : Nat), cs = [.slice A ll.length c, .slice Am l.length cm, .slice cA cvt.length cc, .int .i64 size] ∧ l.length ≤ cm ∧ cm ≤ maxLen ∧ cvt.length ≤ cc ∧ cc ≤ maxLen ∧
      RowAt (codeR w.heap.size) 24 w w.heap.size A ll ∧ RowAt (insR w.heap.size) 96 w w.heap.size Am l ∧ Reads w w.heap.size 1 cA cvt.length (ints cvt) := by
  obtain ⟨⟨ll, l, cvt, size⟩, _, _, rfl, ⟨A, c, rfl, a1, a2, a3⟩, _, _, rfl, ⟨Am, cm, rfl, b1, b2, b3⟩, _, _, rfl, ⟨cA, cc, rfl, c1, c2, c3⟩, rfl, d1⟩ := opens_prog _ _ _ h
  refine ⟨ll, l, cvt, size, A, Am, cA, c, cm, cc, rfl, b1, b2, c1, c2, a3, b3, ?_⟩
  rw [ints_flat]
  exact c3.reads _ fun a cs h => int_eq h
end
end Go.Proofs.YtnhebmgibiomnaaGreat
