/- Parts of the proof, joined: BdC. -/
import Derived.Test.YtnhebmgibiomnaaGreatPc35
set_option linter.unusedVariables false
set_option linter.unusedSimpArgs false
namespace Go.Proofs.YtnhebmgibiomnaaGreat
open Go.RowKit
def costR (N0 : Nat) : Repr N0 Bd.Cost := Repr.map (fun c => (c.need, c.delta, c.peak, c.steps)) (Repr.pair Repr.int (Repr.pair Repr.int (Repr.pair Repr.int Repr.int)))
theorem costR_mk (N0 : Nat) (w : World) (B : Nat) (c0 c1 c2 c3 : Int) (h0 : I64 c0) (h1 : I64 c1) (h2 : I64 c2) (h3 : I64 c3) : (costR N0).rel w B ⟨c0, c1, c2, c3⟩ [.int .i64 c0, .int .i64 c1, .int .i64 c2, .int .i64 c3] :=
  ⟨[_], [_, _, _], rfl, ⟨rfl, h0⟩, [_], [_, _], rfl, ⟨rfl, h1⟩, [_], [_], rfl, ⟨rfl, h2⟩, rfl, h3⟩
theorem costR_eq {N0 : Nat} {w : World} {B : Nat} {x : Bd.Cost} {cs : List Value} (h : (costR N0).rel w B x cs) : cs = [.int .i64 x.need, .int .i64 x.delta, .int .i64 x.peak, .int .i64 x.steps] := by
  obtain ⟨_, _, rfl, ⟨rfl, _⟩, _, _, rfl, ⟨rfl, _⟩, _, _, rfl, ⟨rfl, _⟩, rfl, _⟩ := h; rfl
theorem costCells_flat (l : List Bd.Cost) : costCells l = l.flatMap fun x => [.int .i64 x.need, .int .i64 x.delta, .int .i64 x.peak, .int .i64 x.steps] := by
  induction l with
  | nil => rfl
  | cons x r ih => simp [costCells, ih]
theorem costR_reads {N0 : Nat} {w : World} {B : Nat} {A : Option Addr} {l : List Bd.Cost} (h : RowAt (costR N0) 78 w B A l) : Reads w B 4 A l.length (costCells l) := by
  rw [costCells_flat]; exact h.reads _ fun a cs h => costR_eq h
end Go.Proofs.YtnhebmgibiomnaaGreat
