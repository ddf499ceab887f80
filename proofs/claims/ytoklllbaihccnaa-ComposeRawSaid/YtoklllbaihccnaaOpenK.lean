/- Numbers as arguments, opened. -/
import Derived.Test.YtoklllbaihccnaaOpen
import Derived.Test.YtoklllbaihccnaaCoA
set_option linter.unusedVariables false
set_option linter.unusedSimpArgs false
namespace Go.Proofs.Ytoklllbaihccnaa
open Go.ChangeShapes Go.WideShapes Go.ChangeAt Go.RowKit Go.Deep
theorem ints_flat (l : List Int) : ints l = l.flatMap fun x => [.int .i64 x] := by
  induction l with
  | nil => rfl
  | cons x r ih => simp only [ints, List.map_cons, List.flatMap_cons, List.cons_append, List.nil_append] at *; rw [ih]
section
variable {H : Type} {enc : TypeId × Value → H} {w : World} {spare : Nat → Bool} {held : Bool}
set_option maxRecDepth 100000 in
theorem opens_nums : Opens enc Try.prog w spare held (Repr.row 3 (Repr.int (N0 := w.heap.size))) 22 := opens_row Try.underlying22 (by kernel_rfl) (show 0 < 1 by decide) (opens_int Try.underlying3)
theorem nums_open {fuel : Nat} {cs : List Value} {x : DataW H × List MemPlace} (h : DataW.trod enc Try.prog w 0 spare held fuel 22 cs = some x) :
    ∃ (l : List Int) (A : Option Addr) (c : Nat), cs = [.slice A l.length c] ∧ Reads w w.heap.size 1 A l.length (ints l) ∧ ∀ x ∈ l, I64 x := by
  obtain ⟨l, A, c, rfl, _, _, a3⟩ := opens_nums _ _ _ h
  refine ⟨l, A, c, rfl, ?_, fun x hx => ?_⟩
  · have h := a3.reads (fun x => [.int .i64 x]) fun a cs h => h.1
    rw [← ints_flat] at h
    exact h
  · obtain ⟨i, hi⟩ := List.getElem?_of_mem hx
    obtain ⟨_, _, _, _, _, hr, _⟩ := a3.get hi
    exact hr.2
end
end Go.Proofs.Ytoklllbaihccnaa
