/- An outline as an argument, opened. -/
import Derived.Test.YtnalbkjbidaojaaOpen
import Derived.Test.YtnalbkjbidaojaaMkA
import Derived.Test.YtnalbkjbidaojaaGzA
namespace Go.Proofs.Ytnalbkjbidaojaa
open Go.ChangeShapes Go.WideShapes Go.ChangeAt Go.RowKit Go.Deep Mc

theorem pointR_eq {N0 : Nat} {w : World} {B : Nat} {x : Int × Int × Bool} {cs : List Value} (h : (pointR N0).rel w B x cs) : cs = [.int .i64 x.1, .int .i64 x.2.1, .bool x.2.2] ∧ I64 x.1 ∧ I64 x.2.1 := by
  obtain ⟨_, _, rfl, ⟨rfl, h1⟩, _, _, rfl, ⟨rfl, h2⟩, rfl⟩ := h; exact ⟨rfl, h1, h2⟩
section
variable {H : Type} {enc : TypeId × Value → H} {w : World} {spare : Nat → Bool} {held : Bool}
set_option maxRecDepth 100000 in
theorem opens_point : Opens enc Try.prog w spare held (pointR w.heap.size) 61 :=
  opens_struct Try.underlying61 (by kernel_rfl) (opens_fields rfl (opens_int Try.underlying3) (by kernel_rfl) rfl (opens_fields rfl (opens_int Try.underlying3) (by kernel_rfl) rfl (opens_field rfl (opens_bool Try.underlying4) (by kernel_rfl))))
set_option maxRecDepth 100000 in
theorem opens_pointrow : Opens enc Try.prog w spare held (Repr.row 61 (pointR w.heap.size)) 29 := opens_row Try.underlying29 (by kernel_rfl) (show 0 < 3 by decide) opens_point
set_option maxRecDepth 100000 in
theorem opens_numrow : Opens enc Try.prog w spare held (intsR w.heap.size) 30 := opens_row Try.underlying30 (by kernel_rfl) (show 0 < 1 by decide) (opens_int Try.underlying3)
set_option maxRecDepth 100000 in
theorem opens_outline : Opens enc Try.prog w spare held (outlineR w.heap.size) 32 :=
  opens_struct Try.underlying32 (by kernel_rfl) (opens_fields rfl opens_pointrow (by kernel_rfl) rfl (opens_field rfl opens_numrow (by kernel_rfl)))
theorem outline_open {fuel : Nat} {cs : List Value} {x : DataW H × List MemPlace} (h : DataW.trod enc Try.prog w 0 spare held fuel 32 cs = some x) :
    ∃ (pl : List (Int × Int × Bool)) (el : List Int) (pA eA : Option Addr) (pc ec : Nat), cs = [.slice pA pl.length pc, .slice eA el.length ec] ∧ pl.length ≤ pc ∧ pc ≤ maxLen ∧ el.length ≤ ec ∧ ec ≤ maxLen ∧ Reads w w.heap.size 3 pA pl.length (opts pl) ∧ Reads w w.heap.size 1 eA el.length (ints el) ∧ ∀ p ∈ pl, I64 p.1 ∧ I64 p.2.1 := by
  obtain ⟨⟨pl, el⟩, _, _, rfl, ⟨pA, pc, rfl, a1, a2, a3⟩, eA, ec, rfl, d1, d2, d3⟩ := opens_outline _ _ _ h
  refine ⟨pl, el, pA, eA, pc, ec, rfl, a1, a2, d1, d2, ?_, ?_, ?_⟩
  · exact a3.reads _ fun a cs h => (pointR_eq h).1
  · have h := d3.reads (fun x => [.int .i64 x]) fun a cs h => h.1
    rw [ints_flatF] at h
    exact h
  · intro p hp
    obtain ⟨i, hi⟩ := List.getElem?_of_mem hp
    obtain ⟨_, _, _, _, _, hr, _⟩ := a3.get hi
    exact (pointR_eq hr).2
end
end Go.Proofs.Ytnalbkjbidaojaa
