/-
  No cell of these rows narrows 'for every input' (looked for: loops, veiled, ifaces, maps, wideKeys, modest, calm, conditions, laid).
  DERIVED. THE GIVEN ROWS OF THIS SEAT. 7 by the template 'for every input the law returns true; each argument reads behind the call as it read before'; 0 by the template 'total and deterministic' (their statements: YtoklllbaihccnaaTotals.lean).
  GIVEN WITH THE SEED: the statements are not yours to turn. If you find one false, say at which input.
  Laid BY PROGRAM, IN A SANDBOX (cutbox-rows.mjs): the forced cells as the released guide's own fill.sh prints them over the translation 0e89229f76cd1349… (all of the seat's roots in one cut). By AI agents, Wed Nov 11 2026. No macro, syntax, notation, axiom, sorry.
-/
import Derived.Test.YtoklllbaihccnaaChecked
import GoSem.Claim
import GoSem.ClaimJoined
import GoSem.ClaimMapViews
import Derived.JoinedTies
import Derived.KernelRfl
namespace Go.Proofs.Ytoklllbaihccnaa
/- THE CELL 'sum', in the pinned program and in every row, IS THE sha256 OF THE DUMP (.gsa) THAT YtoklllbaihccnaaProg.lean LOADS. Nothing in Lean hashes anything: it is a label: what it is worth is what the hold of that sum in a sandbox is worth. -/
noncomputable def Try.pinned : Pinned := { name := "ytoklllbaihccnaa", sum := "0e89229f76cd1349ecadc07382f1749145390bda33adba77de9f5af96e174c46", checked := Try.checked }
namespace Rows
def none {H : Type} : Left H := { results := [], args := [] }

/-- 'fleuronlaw04.ComposeAhead': WHATEVER THE INPUT: true; the input reads as it did. -/
def composeAheadSpec : ChangeSpec := { name := "composeAhead", fn := fun _ => fun
  | [d] => { results := [.lit (.bool true)], args := [d] }
  | _ => none }
def composeAheadRow : OpenClaim := { program := "ytoklllbaihccnaa", sum := "0e89229f76cd1349ecadc07382f1749145390bda33adba77de9f5af96e174c46", func := "fleuron/fleuronlaw04.ComposeAhead", spec := "composeAhead", unfollowed := true, recurses := true, apart := false }
def ComposeAheadSaid : Prop := composeAheadRow.holds Try.pinned (OpenSpec.ofChange composeAheadSpec)

/-- ITS FALSE NEIGHBOUR: 'it returns false'. Refute it at one input. -/
def composeAheadWrong : ChangeSpec := { name := "composeAhead", fn := fun _ => fun
  | [d] => { results := [.lit (.bool false)], args := [d] }
  | _ => none }
def ComposeAheadWrongFalsely : Prop := composeAheadRow.holds Try.pinned (OpenSpec.ofChange composeAheadWrong)

/-- 'fleuronlaw04.ComposeTells': WHATEVER THE INPUT: true; the input reads as it did. -/
def composeTellsSpec : ChangeSpec := { name := "composeTells", fn := fun _ => fun
  | [d] => { results := [.lit (.bool true)], args := [d] }
  | _ => none }
def composeTellsRow : OpenClaim := { program := "ytoklllbaihccnaa", sum := "0e89229f76cd1349ecadc07382f1749145390bda33adba77de9f5af96e174c46", func := "fleuron/fleuronlaw04.ComposeTells", spec := "composeTells", unfollowed := true, recurses := true, apart := false }
def ComposeTellsSaid : Prop := composeTellsRow.holds Try.pinned (OpenSpec.ofChange composeTellsSpec)

/-- ITS FALSE NEIGHBOUR: 'it returns false'. Refute it at one input. -/
def composeTellsWrong : ChangeSpec := { name := "composeTells", fn := fun _ => fun
  | [d] => { results := [.lit (.bool false)], args := [d] }
  | _ => none }
def ComposeTellsWrongFalsely : Prop := composeTellsRow.holds Try.pinned (OpenSpec.ofChange composeTellsWrong)

/-- 'fleuronlaw04.ComposeRaw': WHATEVER THE INPUT: true; the input reads as it did. -/
def composeRawSpec : ChangeSpec := { name := "composeRaw", fn := fun _ => fun
  | [d] => { results := [.lit (.bool true)], args := [d] }
  | _ => none }
def composeRawRow : OpenClaim := { program := "ytoklllbaihccnaa", sum := "0e89229f76cd1349ecadc07382f1749145390bda33adba77de9f5af96e174c46", func := "fleuron/fleuronlaw04.ComposeRaw", spec := "composeRaw", unfollowed := true, recurses := true, apart := false }
def ComposeRawSaid : Prop := composeRawRow.holds Try.pinned (OpenSpec.ofChange composeRawSpec)

/-- ITS FALSE NEIGHBOUR: 'it returns false'. Refute it at one input. -/
def composeRawWrong : ChangeSpec := { name := "composeRaw", fn := fun _ => fun
  | [d] => { results := [.lit (.bool false)], args := [d] }
  | _ => none }
def ComposeRawWrongFalsely : Prop := composeRawRow.holds Try.pinned (OpenSpec.ofChange composeRawWrong)

/-- 'fleuronlaw04.ComposeSums': WHATEVER THE INPUT: true; the input reads as it did. -/
def composeSumsSpec : ChangeSpec := { name := "composeSums", fn := fun _ => fun
  | [d1, d2] => { results := [.lit (.bool true)], args := [d1, d2] }
  | _ => none }
def composeSumsRow : OpenClaim := { program := "ytoklllbaihccnaa", sum := "0e89229f76cd1349ecadc07382f1749145390bda33adba77de9f5af96e174c46", func := "fleuron/fleuronlaw04.ComposeSums", spec := "composeSums", unfollowed := true, recurses := true, apart := false }
def ComposeSumsSaid : Prop := composeSumsRow.holds Try.pinned (OpenSpec.ofChange composeSumsSpec)

/-- ITS FALSE NEIGHBOUR: 'it returns false'. Refute it at one input. -/
def composeSumsWrong : ChangeSpec := { name := "composeSums", fn := fun _ => fun
  | [d1, d2] => { results := [.lit (.bool false)], args := [d1, d2] }
  | _ => none }
def ComposeSumsWrongFalsely : Prop := composeSumsRow.holds Try.pinned (OpenSpec.ofChange composeSumsWrong)

/-- 'fleuronlaw04.ComposeFlattens': WHATEVER THE INPUT: true; the input reads as it did. -/
def composeFlattensSpec : ChangeSpec := { name := "composeFlattens", fn := fun _ => fun
  | [d1, d2] => { results := [.lit (.bool true)], args := [d1, d2] }
  | _ => none }
def composeFlattensRow : OpenClaim := { program := "ytoklllbaihccnaa", sum := "0e89229f76cd1349ecadc07382f1749145390bda33adba77de9f5af96e174c46", func := "fleuron/fleuronlaw04.ComposeFlattens", spec := "composeFlattens", unfollowed := true, recurses := true, apart := false }
def ComposeFlattensSaid : Prop := composeFlattensRow.holds Try.pinned (OpenSpec.ofChange composeFlattensSpec)

/-- ITS FALSE NEIGHBOUR: 'it returns false'. Refute it at one input. -/
def composeFlattensWrong : ChangeSpec := { name := "composeFlattens", fn := fun _ => fun
  | [d1, d2] => { results := [.lit (.bool false)], args := [d1, d2] }
  | _ => none }
def ComposeFlattensWrongFalsely : Prop := composeFlattensRow.holds Try.pinned (OpenSpec.ofChange composeFlattensWrong)

/-- 'fleuronlaw04.ComposeMoves': WHATEVER THE INPUT: true; the input reads as it did. -/
def composeMovesSpec : ChangeSpec := { name := "composeMoves", fn := fun _ => fun
  | [d1, d2, d3] => { results := [.lit (.bool true)], args := [d1, d2, d3] }
  | _ => none }
def composeMovesRow : OpenClaim := { program := "ytoklllbaihccnaa", sum := "0e89229f76cd1349ecadc07382f1749145390bda33adba77de9f5af96e174c46", func := "fleuron/fleuronlaw04.ComposeMoves", spec := "composeMoves", unfollowed := true, recurses := true, apart := false }
def ComposeMovesSaid : Prop := composeMovesRow.holds Try.pinned (OpenSpec.ofChange composeMovesSpec)

/-- ITS FALSE NEIGHBOUR: 'it returns false'. Refute it at one input. -/
def composeMovesWrong : ChangeSpec := { name := "composeMoves", fn := fun _ => fun
  | [d1, d2, d3] => { results := [.lit (.bool false)], args := [d1, d2, d3] }
  | _ => none }
def ComposeMovesWrongFalsely : Prop := composeMovesRow.holds Try.pinned (OpenSpec.ofChange composeMovesWrong)

/-- 'fleuronlaw04.ComposeOwn': WHATEVER THE INPUT: true; the input reads as it did. -/
def composeOwnSpec : ChangeSpec := { name := "composeOwn", fn := fun _ => fun
  | [d1, d2] => { results := [.lit (.bool true)], args := [d1, d2] }
  | _ => none }
def composeOwnRow : OpenClaim := { program := "ytoklllbaihccnaa", sum := "0e89229f76cd1349ecadc07382f1749145390bda33adba77de9f5af96e174c46", func := "fleuron/fleuronlaw04.ComposeOwn", spec := "composeOwn", unfollowed := true, recurses := true, apart := false }
def ComposeOwnSaid : Prop := composeOwnRow.holds Try.pinned (OpenSpec.ofChange composeOwnSpec)

/-- ITS FALSE NEIGHBOUR: 'it returns false'. Refute it at one input. -/
def composeOwnWrong : ChangeSpec := { name := "composeOwn", fn := fun _ => fun
  | [d1, d2] => { results := [.lit (.bool false)], args := [d1, d2] }
  | _ => none }
def ComposeOwnWrongFalsely : Prop := composeOwnRow.holds Try.pinned (OpenSpec.ofChange composeOwnWrong)

/- THE SECOND FORM. 'bulk': how many values and letters a reading holds, each counted each time it is reached (what is shared counts as often as it is met; a slice's spare places count too). A statement '..UptoSaid' is the law's where the arguments, and the package variables that the reading takes, are together of bulk at most 1048576: NARROWER than '..Said'. Prove '..Said' where nothing that the law and all that it calls make is longer than what came in: it says more and counts as full. Else prove '..UptoSaid'. A law counts once. -/
mutual
def uptoBulk {H : Type} : DataW H → Nat
  | .lit (.string bytes) => bytes.length + 1
  | .lit _ => 1
  | .nil => 1
  | .ptr d => uptoBulk d + 1
  | .slice elems spare => uptoBulkAll elems + uptoBulkAll spare + 1
  | .agg parts => uptoBulkAll parts + 1
  | .iface _ d => uptoBulk d + 1
  | .map entries => uptoBulkEntries entries + 1
  | .held _ => 1
def uptoBulkAll {H : Type} : List (DataW H) → Nat
  | [] => 0
  | d :: r => uptoBulk d + uptoBulkAll r
def uptoBulkEntries {H : Type} : List (Lit × DataW H) → Nat
  | [] => 0
  | x :: r => uptoBulkEntry x + uptoBulkEntries r
def uptoBulkEntry {H : Type} : Lit × DataW H → Nat
  | (.string bytes, d) => bytes.length + uptoBulk d + 1
  | (_, d) => uptoBulk d + 1
 end
def uptoSmall : (H : Type) → List (DataW H) → Bool := fun _ ds => decide (uptoBulkAll ds ≤ 1048576)
def OpenSpec.upto (s : _root_.Go.ChangeSpec) : _root_.Go.OpenSpec := { _root_.Go.OpenSpec.ofChange s with cond := some uptoSmall }

/-- 'fleuronlaw04.ComposeAhead', WHERE WHAT IT READS IS OF BULK AT MOST 1048576: true; the input reads as it did. -/
def composeAheadUptoRow : OpenClaim := { program := "ytoklllbaihccnaa", sum := "0e89229f76cd1349ecadc07382f1749145390bda33adba77de9f5af96e174c46", func := "fleuron/fleuronlaw04.ComposeAhead", spec := "composeAhead", unfollowed := true, recurses := true, apart := false, narrowed := true }
def ComposeAheadUptoSaid : Prop := composeAheadUptoRow.holds Try.pinned (OpenSpec.upto composeAheadSpec)

/-- 'fleuronlaw04.ComposeTells', WHERE WHAT IT READS IS OF BULK AT MOST 1048576: true; the input reads as it did. -/
def composeTellsUptoRow : OpenClaim := { program := "ytoklllbaihccnaa", sum := "0e89229f76cd1349ecadc07382f1749145390bda33adba77de9f5af96e174c46", func := "fleuron/fleuronlaw04.ComposeTells", spec := "composeTells", unfollowed := true, recurses := true, apart := false, narrowed := true }
def ComposeTellsUptoSaid : Prop := composeTellsUptoRow.holds Try.pinned (OpenSpec.upto composeTellsSpec)

/-- 'fleuronlaw04.ComposeRaw', WHERE WHAT IT READS IS OF BULK AT MOST 1048576: true; the input reads as it did. -/
def composeRawUptoRow : OpenClaim := { program := "ytoklllbaihccnaa", sum := "0e89229f76cd1349ecadc07382f1749145390bda33adba77de9f5af96e174c46", func := "fleuron/fleuronlaw04.ComposeRaw", spec := "composeRaw", unfollowed := true, recurses := true, apart := false, narrowed := true }
def ComposeRawUptoSaid : Prop := composeRawUptoRow.holds Try.pinned (OpenSpec.upto composeRawSpec)

/-- 'fleuronlaw04.ComposeSums', WHERE WHAT IT READS IS OF BULK AT MOST 1048576: true; the input reads as it did. -/
def composeSumsUptoRow : OpenClaim := { program := "ytoklllbaihccnaa", sum := "0e89229f76cd1349ecadc07382f1749145390bda33adba77de9f5af96e174c46", func := "fleuron/fleuronlaw04.ComposeSums", spec := "composeSums", unfollowed := true, recurses := true, apart := false, narrowed := true }
def ComposeSumsUptoSaid : Prop := composeSumsUptoRow.holds Try.pinned (OpenSpec.upto composeSumsSpec)

/-- 'fleuronlaw04.ComposeFlattens', WHERE WHAT IT READS IS OF BULK AT MOST 1048576: true; the input reads as it did. -/
def composeFlattensUptoRow : OpenClaim := { program := "ytoklllbaihccnaa", sum := "0e89229f76cd1349ecadc07382f1749145390bda33adba77de9f5af96e174c46", func := "fleuron/fleuronlaw04.ComposeFlattens", spec := "composeFlattens", unfollowed := true, recurses := true, apart := false, narrowed := true }
def ComposeFlattensUptoSaid : Prop := composeFlattensUptoRow.holds Try.pinned (OpenSpec.upto composeFlattensSpec)

/-- 'fleuronlaw04.ComposeMoves', WHERE WHAT IT READS IS OF BULK AT MOST 1048576: true; the input reads as it did. -/
def composeMovesUptoRow : OpenClaim := { program := "ytoklllbaihccnaa", sum := "0e89229f76cd1349ecadc07382f1749145390bda33adba77de9f5af96e174c46", func := "fleuron/fleuronlaw04.ComposeMoves", spec := "composeMoves", unfollowed := true, recurses := true, apart := false, narrowed := true }
def ComposeMovesUptoSaid : Prop := composeMovesUptoRow.holds Try.pinned (OpenSpec.upto composeMovesSpec)

/-- 'fleuronlaw04.ComposeOwn', WHERE WHAT IT READS IS OF BULK AT MOST 1048576: true; the input reads as it did. -/
def composeOwnUptoRow : OpenClaim := { program := "ytoklllbaihccnaa", sum := "0e89229f76cd1349ecadc07382f1749145390bda33adba77de9f5af96e174c46", func := "fleuron/fleuronlaw04.ComposeOwn", spec := "composeOwn", unfollowed := true, recurses := true, apart := false, narrowed := true }
def ComposeOwnUptoSaid : Prop := composeOwnUptoRow.holds Try.pinned (OpenSpec.upto composeOwnSpec)

end Rows
end Go.Proofs.Ytoklllbaihccnaa
