/-
  No cell of these rows narrows 'for every input' (looked for: loops, veiled, ifaces, maps, wideKeys, modest, calm, conditions, laid).
  DERIVED. THE GIVEN ROWS OF THIS SEAT. 9 by the template 'for every input the law returns true; each argument reads behind the call as it read before'; 0 by the template 'total and deterministic' (their statements: YtnhebmgibiomnaaGreatTotals.lean).
  GIVEN WITH THE SEED: the statements are not yours to turn. If you find one false, say at which input.
  Laid BY PROGRAM, IN A SANDBOX (cutbox-rows.mjs): the forced cells as the released guide's own fill.sh prints them over the translation 5467bbf622bef172… (all of the seat's roots in one cut). By AI agents, Wed Nov 11 2026. No macro, syntax, notation, axiom, sorry.
-/
import Derived.Test.YtnhebmgibiomnaaGreatChecked
import GoSem.Claim
import GoSem.ClaimJoined
import GoSem.ClaimMapViews
import Derived.JoinedTies
import Derived.KernelRfl
namespace Go.Proofs.YtnhebmgibiomnaaGreat
/- THE CELL 'sum', in the pinned program and in every row, IS THE sha256 OF THE DUMP (.gsa) THAT YtnhebmgibiomnaaGreatProg.lean LOADS. Nothing in Lean hashes anything: it is a label: what it is worth is what the hold of that sum in a sandbox is worth. -/
noncomputable def Tryz.pinned : Pinned := { name := "ytnhebmgibiomnaagreat", sum := "5467bbf622bef172d13d2f0a890d560e8096de007f28a82a39f6f7b1067d553f", checked := Tryz.checked }
namespace Rows
def none {H : Type} : Left H := { results := [], args := [] }

/-- 'fleuronlaw20.StraightSlow': WHATEVER THE INPUT: true; the input reads as it did. -/
def straightSlowSpec : ChangeSpec := { name := "straightSlow", fn := fun _ => fun
  | [d1, d2] => { results := [.lit (.bool true)], args := [d1, d2] }
  | _ => none }
def straightSlowRow : OpenClaim := { program := "ytnhebmgibiomnaagreat", sum := "5467bbf622bef172d13d2f0a890d560e8096de007f28a82a39f6f7b1067d553f", func := "fleuron/fleuronlaw20.StraightSlow", spec := "straightSlow", unfollowed := true, recurses := true, apart := false }
def StraightSlowSaid : Prop := straightSlowRow.holds Tryz.pinned (OpenSpec.ofChange straightSlowSpec)

/-- ITS FALSE NEIGHBOUR: 'it returns false'. Refute it at one input. -/
def straightSlowWrong : ChangeSpec := { name := "straightSlow", fn := fun _ => fun
  | [d1, d2] => { results := [.lit (.bool false)], args := [d1, d2] }
  | _ => none }
def StraightSlowWrongFalsely : Prop := straightSlowRow.holds Tryz.pinned (OpenSpec.ofChange straightSlowWrong)

/-- 'fleuronlaw20.StraightWrong': WHATEVER THE INPUT: true; the input reads as it did. -/
def straightWrongSpec : ChangeSpec := { name := "straightWrong", fn := fun _ => fun
  | [d] => { results := [.lit (.bool true)], args := [d] }
  | _ => none }
def straightWrongRow : OpenClaim := { program := "ytnhebmgibiomnaagreat", sum := "5467bbf622bef172d13d2f0a890d560e8096de007f28a82a39f6f7b1067d553f", func := "fleuron/fleuronlaw20.StraightWrong", spec := "straightWrong", unfollowed := true, recurses := true, apart := false }
def StraightWrongSaid : Prop := straightWrongRow.holds Tryz.pinned (OpenSpec.ofChange straightWrongSpec)

/-- ITS FALSE NEIGHBOUR: 'it returns false'. Refute it at one input. -/
def straightWrongWrong : ChangeSpec := { name := "straightWrong", fn := fun _ => fun
  | [d] => { results := [.lit (.bool false)], args := [d] }
  | _ => none }
def StraightWrongWrongFalsely : Prop := straightWrongRow.holds Tryz.pinned (OpenSpec.ofChange straightWrongWrong)

/-- 'fleuronlaw20.StraightRuns': WHATEVER THE INPUT: true; the input reads as it did. -/
def straightRunsSpec : ChangeSpec := { name := "straightRuns", fn := fun _ => fun
  | [d1, d2, d3] => { results := [.lit (.bool true)], args := [d1, d2, d3] }
  | _ => none }
def straightRunsRow : OpenClaim := { program := "ytnhebmgibiomnaagreat", sum := "5467bbf622bef172d13d2f0a890d560e8096de007f28a82a39f6f7b1067d553f", func := "fleuron/fleuronlaw20.StraightRuns", spec := "straightRuns", unfollowed := true, recurses := true, apart := false }
def StraightRunsSaid : Prop := straightRunsRow.holds Tryz.pinned (OpenSpec.ofChange straightRunsSpec)

/-- ITS FALSE NEIGHBOUR: 'it returns false'. Refute it at one input. -/
def straightRunsWrong : ChangeSpec := { name := "straightRuns", fn := fun _ => fun
  | [d1, d2, d3] => { results := [.lit (.bool false)], args := [d1, d2, d3] }
  | _ => none }
def StraightRunsWrongFalsely : Prop := straightRunsRow.holds Tryz.pinned (OpenSpec.ofChange straightRunsWrong)

/-- 'fleuronlaw20.StraightOn': WHATEVER THE INPUT: true; the input reads as it did. -/
def straightOnSpec : ChangeSpec := { name := "straightOn", fn := fun _ => fun
  | [d1, d2, d3] => { results := [.lit (.bool true)], args := [d1, d2, d3] }
  | _ => none }
def straightOnRow : OpenClaim := { program := "ytnhebmgibiomnaagreat", sum := "5467bbf622bef172d13d2f0a890d560e8096de007f28a82a39f6f7b1067d553f", func := "fleuron/fleuronlaw20.StraightOn", spec := "straightOn", unfollowed := true, recurses := true, apart := false }
def StraightOnSaid : Prop := straightOnRow.holds Tryz.pinned (OpenSpec.ofChange straightOnSpec)

/-- ITS FALSE NEIGHBOUR: 'it returns false'. Refute it at one input. -/
def straightOnWrong : ChangeSpec := { name := "straightOn", fn := fun _ => fun
  | [d1, d2, d3] => { results := [.lit (.bool false)], args := [d1, d2, d3] }
  | _ => none }
def StraightOnWrongFalsely : Prop := straightOnRow.holds Tryz.pinned (OpenSpec.ofChange straightOnWrong)

/-- 'fleuronlaw20.StraightSkips': WHATEVER THE INPUT: true; the input reads as it did. -/
def straightSkipsSpec : ChangeSpec := { name := "straightSkips", fn := fun _ => fun
  | [d1, d2, d3] => { results := [.lit (.bool true)], args := [d1, d2, d3] }
  | _ => none }
def straightSkipsRow : OpenClaim := { program := "ytnhebmgibiomnaagreat", sum := "5467bbf622bef172d13d2f0a890d560e8096de007f28a82a39f6f7b1067d553f", func := "fleuron/fleuronlaw20.StraightSkips", spec := "straightSkips", unfollowed := true, recurses := true, apart := false }
def StraightSkipsSaid : Prop := straightSkipsRow.holds Tryz.pinned (OpenSpec.ofChange straightSkipsSpec)

/-- ITS FALSE NEIGHBOUR: 'it returns false'. Refute it at one input. -/
def straightSkipsWrong : ChangeSpec := { name := "straightSkips", fn := fun _ => fun
  | [d1, d2, d3] => { results := [.lit (.bool false)], args := [d1, d2, d3] }
  | _ => none }
def StraightSkipsWrongFalsely : Prop := straightSkipsRow.holds Tryz.pinned (OpenSpec.ofChange straightSkipsWrong)

/-- 'fleuronlaw20.StraightAgain': WHATEVER THE INPUT: true; the input reads as it did. -/
def straightAgainSpec : ChangeSpec := { name := "straightAgain", fn := fun _ => fun
  | [d1, d2, d3] => { results := [.lit (.bool true)], args := [d1, d2, d3] }
  | _ => none }
def straightAgainRow : OpenClaim := { program := "ytnhebmgibiomnaagreat", sum := "5467bbf622bef172d13d2f0a890d560e8096de007f28a82a39f6f7b1067d553f", func := "fleuron/fleuronlaw20.StraightAgain", spec := "straightAgain", unfollowed := true, recurses := true, apart := false }
def StraightAgainSaid : Prop := straightAgainRow.holds Tryz.pinned (OpenSpec.ofChange straightAgainSpec)

/-- ITS FALSE NEIGHBOUR: 'it returns false'. Refute it at one input. -/
def straightAgainWrong : ChangeSpec := { name := "straightAgain", fn := fun _ => fun
  | [d1, d2, d3] => { results := [.lit (.bool false)], args := [d1, d2, d3] }
  | _ => none }
def StraightAgainWrongFalsely : Prop := straightAgainRow.holds Tryz.pinned (OpenSpec.ofChange straightAgainWrong)

/-- 'fleuronlaw20.StraightDoes': WHATEVER THE INPUT: true; the input reads as it did. -/
def straightDoesSpec : ChangeSpec := { name := "straightDoes", fn := fun _ => fun
  | [d1, d2] => { results := [.lit (.bool true)], args := [d1, d2] }
  | _ => none }
def straightDoesRow : OpenClaim := { program := "ytnhebmgibiomnaagreat", sum := "5467bbf622bef172d13d2f0a890d560e8096de007f28a82a39f6f7b1067d553f", func := "fleuron/fleuronlaw20.StraightDoes", spec := "straightDoes", unfollowed := true, recurses := true, apart := false }
def StraightDoesSaid : Prop := straightDoesRow.holds Tryz.pinned (OpenSpec.ofChange straightDoesSpec)

/-- ITS FALSE NEIGHBOUR: 'it returns false'. Refute it at one input. -/
def straightDoesWrong : ChangeSpec := { name := "straightDoes", fn := fun _ => fun
  | [d1, d2] => { results := [.lit (.bool false)], args := [d1, d2] }
  | _ => none }
def StraightDoesWrongFalsely : Prop := straightDoesRow.holds Tryz.pinned (OpenSpec.ofChange straightDoesWrong)

/-- 'fleuronlaw20.StraightAny': WHATEVER THE INPUT: true; the input reads as it did. -/
def straightAnySpec : ChangeSpec := { name := "straightAny", fn := fun _ => fun
  | [d1, d2] => { results := [.lit (.bool true)], args := [d1, d2] }
  | _ => none }
def straightAnyRow : OpenClaim := { program := "ytnhebmgibiomnaagreat", sum := "5467bbf622bef172d13d2f0a890d560e8096de007f28a82a39f6f7b1067d553f", func := "fleuron/fleuronlaw20.StraightAny", spec := "straightAny", unfollowed := true, recurses := true, apart := false }
def StraightAnySaid : Prop := straightAnyRow.holds Tryz.pinned (OpenSpec.ofChange straightAnySpec)

/-- ITS FALSE NEIGHBOUR: 'it returns false'. Refute it at one input. -/
def straightAnyWrong : ChangeSpec := { name := "straightAny", fn := fun _ => fun
  | [d1, d2] => { results := [.lit (.bool false)], args := [d1, d2] }
  | _ => none }
def StraightAnyWrongFalsely : Prop := straightAnyRow.holds Tryz.pinned (OpenSpec.ofChange straightAnyWrong)

/-- 'fleuronlaw20.StraightSpoilt': WHATEVER THE INPUT: true; the input reads as it did. -/
def straightSpoiltSpec : ChangeSpec := { name := "straightSpoilt", fn := fun _ => fun
  | [d1, d2, d3] => { results := [.lit (.bool true)], args := [d1, d2, d3] }
  | _ => none }
def straightSpoiltRow : OpenClaim := { program := "ytnhebmgibiomnaagreat", sum := "5467bbf622bef172d13d2f0a890d560e8096de007f28a82a39f6f7b1067d553f", func := "fleuron/fleuronlaw20.StraightSpoilt", spec := "straightSpoilt", unfollowed := true, recurses := true, apart := false }
def StraightSpoiltSaid : Prop := straightSpoiltRow.holds Tryz.pinned (OpenSpec.ofChange straightSpoiltSpec)

/-- ITS FALSE NEIGHBOUR: 'it returns false'. Refute it at one input. -/
def straightSpoiltWrong : ChangeSpec := { name := "straightSpoilt", fn := fun _ => fun
  | [d1, d2, d3] => { results := [.lit (.bool false)], args := [d1, d2, d3] }
  | _ => none }
def StraightSpoiltWrongFalsely : Prop := straightSpoiltRow.holds Tryz.pinned (OpenSpec.ofChange straightSpoiltWrong)

/- THE SECOND FORM. 'bulk': how many values and letters a reading holds, each counted each time it is reached (what is shared counts as often as it is met; a slice's spare places count too). A statement '..UptoSaid' is the law's where the arguments, and the package variables that the reading takes, are together of bulk at most 1048576: NARROWER than '..Said'. Prove '..Said' where nothing that the law and all that it calls make is longer than what came in: it says more and counts as full. Else prove '..UptoSaid'. A law counts once. -/
mutual
def uptoBulk {H : Type} : DataW H → Nat
  | .lit (.string bytes) => bytes.length + 1
  | .lit _ => 1
  | .nil => 1
  | .ptr d => uptoBulk d + 1
  | .slice elems spare => uptoBulkAll elems + uptoBulkAll spare + 1
  | .agg parts => uptoBulkAll parts + 1
  | .iface _ d => uptoBulk d + 1
  | .map entries => uptoBulkEntries entries + 1
  | .held _ => 1
def uptoBulkAll {H : Type} : List (DataW H) → Nat
  | [] => 0
  | d :: r => uptoBulk d + uptoBulkAll r
def uptoBulkEntries {H : Type} : List (Lit × DataW H) → Nat
  | [] => 0
  | x :: r => uptoBulkEntry x + uptoBulkEntries r
def uptoBulkEntry {H : Type} : Lit × DataW H → Nat
  | (.string bytes, d) => bytes.length + uptoBulk d + 1
  | (_, d) => uptoBulk d + 1
 end
def uptoSmall : (H : Type) → List (DataW H) → Bool := fun _ ds => decide (uptoBulkAll ds ≤ 1048576)
def OpenSpec.upto (s : _root_.Go.ChangeSpec) : _root_.Go.OpenSpec := { _root_.Go.OpenSpec.ofChange s with cond := some uptoSmall }

/-- 'fleuronlaw20.StraightSlow', WHERE WHAT IT READS IS OF BULK AT MOST 1048576: true; the input reads as it did. -/
def straightSlowUptoRow : OpenClaim := { program := "ytnhebmgibiomnaagreat", sum := "5467bbf622bef172d13d2f0a890d560e8096de007f28a82a39f6f7b1067d553f", func := "fleuron/fleuronlaw20.StraightSlow", spec := "straightSlow", unfollowed := true, recurses := true, apart := false, narrowed := true }
def StraightSlowUptoSaid : Prop := straightSlowUptoRow.holds Tryz.pinned (OpenSpec.upto straightSlowSpec)

/-- 'fleuronlaw20.StraightWrong', WHERE WHAT IT READS IS OF BULK AT MOST 1048576: true; the input reads as it did. -/
def straightWrongUptoRow : OpenClaim := { program := "ytnhebmgibiomnaagreat", sum := "5467bbf622bef172d13d2f0a890d560e8096de007f28a82a39f6f7b1067d553f", func := "fleuron/fleuronlaw20.StraightWrong", spec := "straightWrong", unfollowed := true, recurses := true, apart := false, narrowed := true }
def StraightWrongUptoSaid : Prop := straightWrongUptoRow.holds Tryz.pinned (OpenSpec.upto straightWrongSpec)

/-- 'fleuronlaw20.StraightRuns', WHERE WHAT IT READS IS OF BULK AT MOST 1048576: true; the input reads as it did. -/
def straightRunsUptoRow : OpenClaim := { program := "ytnhebmgibiomnaagreat", sum := "5467bbf622bef172d13d2f0a890d560e8096de007f28a82a39f6f7b1067d553f", func := "fleuron/fleuronlaw20.StraightRuns", spec := "straightRuns", unfollowed := true, recurses := true, apart := false, narrowed := true }
def StraightRunsUptoSaid : Prop := straightRunsUptoRow.holds Tryz.pinned (OpenSpec.upto straightRunsSpec)

/-- 'fleuronlaw20.StraightOn', WHERE WHAT IT READS IS OF BULK AT MOST 1048576: true; the input reads as it did. -/
def straightOnUptoRow : OpenClaim := { program := "ytnhebmgibiomnaagreat", sum := "5467bbf622bef172d13d2f0a890d560e8096de007f28a82a39f6f7b1067d553f", func := "fleuron/fleuronlaw20.StraightOn", spec := "straightOn", unfollowed := true, recurses := true, apart := false, narrowed := true }
def StraightOnUptoSaid : Prop := straightOnUptoRow.holds Tryz.pinned (OpenSpec.upto straightOnSpec)

/-- 'fleuronlaw20.StraightSkips', WHERE WHAT IT READS IS OF BULK AT MOST 1048576: true; the input reads as it did. -/
def straightSkipsUptoRow : OpenClaim := { program := "ytnhebmgibiomnaagreat", sum := "5467bbf622bef172d13d2f0a890d560e8096de007f28a82a39f6f7b1067d553f", func := "fleuron/fleuronlaw20.StraightSkips", spec := "straightSkips", unfollowed := true, recurses := true, apart := false, narrowed := true }
def StraightSkipsUptoSaid : Prop := straightSkipsUptoRow.holds Tryz.pinned (OpenSpec.upto straightSkipsSpec)

/-- 'fleuronlaw20.StraightAgain', WHERE WHAT IT READS IS OF BULK AT MOST 1048576: true; the input reads as it did. -/
def straightAgainUptoRow : OpenClaim := { program := "ytnhebmgibiomnaagreat", sum := "5467bbf622bef172d13d2f0a890d560e8096de007f28a82a39f6f7b1067d553f", func := "fleuron/fleuronlaw20.StraightAgain", spec := "straightAgain", unfollowed := true, recurses := true, apart := false, narrowed := true }
def StraightAgainUptoSaid : Prop := straightAgainUptoRow.holds Tryz.pinned (OpenSpec.upto straightAgainSpec)

/-- 'fleuronlaw20.StraightDoes', WHERE WHAT IT READS IS OF BULK AT MOST 1048576: true; the input reads as it did. -/
def straightDoesUptoRow : OpenClaim := { program := "ytnhebmgibiomnaagreat", sum := "5467bbf622bef172d13d2f0a890d560e8096de007f28a82a39f6f7b1067d553f", func := "fleuron/fleuronlaw20.StraightDoes", spec := "straightDoes", unfollowed := true, recurses := true, apart := false, narrowed := true }
def StraightDoesUptoSaid : Prop := straightDoesUptoRow.holds Tryz.pinned (OpenSpec.upto straightDoesSpec)

/-- 'fleuronlaw20.StraightAny', WHERE WHAT IT READS IS OF BULK AT MOST 1048576: true; the input reads as it did. -/
def straightAnyUptoRow : OpenClaim := { program := "ytnhebmgibiomnaagreat", sum := "5467bbf622bef172d13d2f0a890d560e8096de007f28a82a39f6f7b1067d553f", func := "fleuron/fleuronlaw20.StraightAny", spec := "straightAny", unfollowed := true, recurses := true, apart := false, narrowed := true }
def StraightAnyUptoSaid : Prop := straightAnyUptoRow.holds Tryz.pinned (OpenSpec.upto straightAnySpec)

/-- 'fleuronlaw20.StraightSpoilt', WHERE WHAT IT READS IS OF BULK AT MOST 1048576: true; the input reads as it did. -/
def straightSpoiltUptoRow : OpenClaim := { program := "ytnhebmgibiomnaagreat", sum := "5467bbf622bef172d13d2f0a890d560e8096de007f28a82a39f6f7b1067d553f", func := "fleuron/fleuronlaw20.StraightSpoilt", spec := "straightSpoilt", unfollowed := true, recurses := true, apart := false, narrowed := true }
def StraightSpoiltUptoSaid : Prop := straightSpoiltUptoRow.holds Tryz.pinned (OpenSpec.upto straightSpoiltSpec)

end Rows
end Go.Proofs.YtnhebmgibiomnaaGreat
