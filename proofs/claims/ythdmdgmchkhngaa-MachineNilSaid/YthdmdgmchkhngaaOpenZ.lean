/- A zone as an argument, opened. -/
import Derived.Test.YthdmdgmchkhngaaOpen
import Derived.Test.YthdmdgmchkhngaaMnB
namespace Go.Proofs.Ythdmdgmchkhngaa
open Go.ChangeShapes Go.WideShapes Go.ChangeAt Go.RowKit Go.Deep Mc

def ptR (N0 : Nat) : Repr N0 (Int × Int) := Repr.pair Repr.int Repr.int
theorem ptR_eq {N0 : Nat} {w : World} {B : Nat} {x : Int × Int} {cs : List Value} (h : (ptR N0).rel w B x cs) : cs = [.int .i64 x.1, .int .i64 x.2] := by
  obtain ⟨_, _, rfl, ⟨rfl, _⟩, rfl, _⟩ := h; rfl
theorem int_eq {N0 : Nat} {w : World} {B : Nat} {x : Int} {cs : List Value} (h : (Repr.int (N0 := N0)).rel w B x cs) : cs = [.int .i64 x] := h.1
theorem ints_flat (l : List Int) : ints l = l.flatMap fun x => [.int .i64 x] := by
  induction l with
  | nil => rfl
  | cons x r ih => simp only [ints, List.map_cons, List.flatMap_cons, List.cons_append, List.nil_append] at *; rw [ih]
def zoneR (N0 : Nat) : Repr N0 (List (Int × Int) × List (Int × Int) × List Int × List Int) := Repr.pair (Repr.row 29 (ptR N0)) (Repr.pair (Repr.row 29 (ptR N0)) (Repr.pair (Repr.row 3 Repr.int) (Repr.row 3 Repr.int)))
section
variable {H : Type} {enc : TypeId × Value → H} {w : World} {spare : Nat → Bool} {held : Bool}
set_option maxRecDepth 100000 in
theorem opens_pt : Opens enc Try.prog w spare held (ptR w.heap.size) 29 :=
  opens_struct Try.underlying29 (by kernel_rfl) (opens_fields rfl (opens_int Try.underlying3) (by kernel_rfl) rfl (opens_field rfl (opens_int Try.underlying3) (by kernel_rfl)))
set_option maxRecDepth 100000 in
theorem opens_pts : Opens enc Try.prog w spare held (Repr.row 29 (ptR w.heap.size)) 30 := opens_row Try.underlying30 (by kernel_rfl) (show 0 < 2 by decide) opens_pt
set_option maxRecDepth 100000 in
theorem opens_nums : Opens enc Try.prog w spare held (Repr.row 3 (Repr.int (N0 := w.heap.size))) 31 := opens_row Try.underlying31 (by kernel_rfl) (show 0 < 1 by decide) (opens_int Try.underlying3)
set_option maxRecDepth 100000 in
theorem opens_zone : Opens enc Try.prog w spare held (zoneR w.heap.size) 33 :=
  opens_struct Try.underlying33 (by kernel_rfl) (opens_fields rfl opens_pts (by kernel_rfl) rfl (opens_fields rfl opens_pts (by kernel_rfl) rfl (opens_fields rfl opens_nums (by kernel_rfl) rfl (opens_field rfl opens_nums (by kernel_rfl)))))
theorem zone_open {fuel : Nat} {cs : List Value} {x : DataW H × List MemPlace} (h : DataW.trod enc Try.prog w 0 spare held fuel 33 cs = some x) :
    ∃ (z : Zn) (oA uA tA eA : Option Addr) (oc uc tc ec : Nat), cs = [.slice oA z.org.length oc, .slice uA z.cur.length uc, .slice tA z.touch.length tc, .slice eA z.ends.length ec] ∧ z.org.length ≤ oc ∧ z.cur.length ≤ uc ∧ z.touch.length ≤ tc ∧ z.ends.length ≤ ec ∧ ZnAt w w.heap.size z oA uA tA eA := by
  obtain ⟨⟨o, u, t, e⟩, _, _, rfl, ⟨oA, oc, rfl, a1, a2, a3⟩, _, _, rfl, ⟨uA, uc, rfl, b1, b2, b3⟩, _, _, rfl, ⟨tA, tc, rfl, c1, c2, c3⟩, eA, ec, rfl, d1, d2, d3⟩ := opens_zone _ _ _ h
  refine ⟨⟨o, u, t, e⟩, oA, uA, tA, eA, oc, uc, tc, ec, rfl, a1, b1, c1, d1, ?_, ?_, ?_, ?_⟩
  · exact a3.reads _ fun a cs h => ptR_eq h
  · exact b3.reads _ fun a cs h => ptR_eq h
  · rw [ints_flat]; exact c3.reads _ fun a cs h => int_eq h
  · rw [ints_flat]; exact d3.reads _ fun a cs h => int_eq h
end
end Go.Proofs.Ythdmdgmchkhngaa
