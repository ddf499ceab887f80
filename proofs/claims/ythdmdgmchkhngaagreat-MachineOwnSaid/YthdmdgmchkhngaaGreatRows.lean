/-
  No cell of these rows narrows 'for every input' (looked for: loops, veiled, ifaces, maps, wideKeys, modest, calm, conditions, laid).
  DERIVED. THE GIVEN ROWS OF THIS SEAT. 6 by the template 'for every input the law returns true; each argument reads behind the call as it read before'; 0 by the template 'total and deterministic' (their statements: YthdmdgmchkhngaaGreatTotals.lean).
  GIVEN WITH THE SEED: the statements are not yours to turn. If you find one false, say at which input.
  Laid BY PROGRAM, IN A SANDBOX (cutbox-rows.mjs): the forced cells as the released guide's own fill.sh prints them over the translation 10b4b9d8c5b3bb0e… (all of the seat's roots in one cut). By AI agents, Wed Nov 11 2026. No macro, syntax, notation, axiom, sorry.
-/
import Derived.Test.YthdmdgmchkhngaaGreatChecked
import GoSem.Claim
import GoSem.ClaimJoined
import GoSem.ClaimMapViews
import Derived.JoinedTies
import Derived.KernelRfl
namespace Go.Proofs.YthdmdgmchkhngaaGreat
/- THE CELL 'sum', in the pinned program and in every row, IS THE sha256 OF THE DUMP (.gsa) THAT YthdmdgmchkhngaaGreatProg.lean LOADS. Nothing in Lean hashes anything: it is a label: what it is worth is what the hold of that sum in a sandbox is worth. -/
noncomputable def Tryz.pinned : Pinned := { name := "ythdmdgmchkhngaagreat", sum := "10b4b9d8c5b3bb0e4767a9beeaaeef157cc51fc8d0aa30a2ed835eb70630727a", checked := Tryz.checked }
namespace Rows
def none {H : Type} : Left H := { results := [], args := [] }

/-- 'fleuronlaw18.MachineRuns': WHATEVER THE INPUT: true; the input reads as it did. -/
def machineRunsSpec : ChangeSpec := { name := "machineRuns", fn := fun _ => fun
  | [d1, d2, d3] => { results := [.lit (.bool true)], args := [d1, d2, d3] }
  | _ => none }
def machineRunsRow : OpenClaim := { program := "ythdmdgmchkhngaagreat", sum := "10b4b9d8c5b3bb0e4767a9beeaaeef157cc51fc8d0aa30a2ed835eb70630727a", func := "fleuron/fleuronlaw18.MachineRuns", spec := "machineRuns", unfollowed := true, recurses := true, apart := false }
def MachineRunsSaid : Prop := machineRunsRow.holds Tryz.pinned (OpenSpec.ofChange machineRunsSpec)

/-- ITS FALSE NEIGHBOUR: 'it returns false'. Refute it at one input. -/
def machineRunsWrong : ChangeSpec := { name := "machineRuns", fn := fun _ => fun
  | [d1, d2, d3] => { results := [.lit (.bool false)], args := [d1, d2, d3] }
  | _ => none }
def MachineRunsWrongFalsely : Prop := machineRunsRow.holds Tryz.pinned (OpenSpec.ofChange machineRunsWrong)

/-- 'fleuronlaw18.MachineSteps': WHATEVER THE INPUT: true; the input reads as it did. -/
def machineStepsSpec : ChangeSpec := { name := "machineSteps", fn := fun _ => fun
  | [d1, d2, d3] => { results := [.lit (.bool true)], args := [d1, d2, d3] }
  | _ => none }
def machineStepsRow : OpenClaim := { program := "ythdmdgmchkhngaagreat", sum := "10b4b9d8c5b3bb0e4767a9beeaaeef157cc51fc8d0aa30a2ed835eb70630727a", func := "fleuron/fleuronlaw18.MachineSteps", spec := "machineSteps", unfollowed := true, recurses := true, apart := false }
def MachineStepsSaid : Prop := machineStepsRow.holds Tryz.pinned (OpenSpec.ofChange machineStepsSpec)

/-- ITS FALSE NEIGHBOUR: 'it returns false'. Refute it at one input. -/
def machineStepsWrong : ChangeSpec := { name := "machineSteps", fn := fun _ => fun
  | [d1, d2, d3] => { results := [.lit (.bool false)], args := [d1, d2, d3] }
  | _ => none }
def MachineStepsWrongFalsely : Prop := machineStepsRow.holds Tryz.pinned (OpenSpec.ofChange machineStepsWrong)

/-- 'fleuronlaw18.MachineMore': WHATEVER THE INPUT: true; the input reads as it did. -/
def machineMoreSpec : ChangeSpec := { name := "machineMore", fn := fun _ => fun
  | [d1, d2, d3] => { results := [.lit (.bool true)], args := [d1, d2, d3] }
  | _ => none }
def machineMoreRow : OpenClaim := { program := "ythdmdgmchkhngaagreat", sum := "10b4b9d8c5b3bb0e4767a9beeaaeef157cc51fc8d0aa30a2ed835eb70630727a", func := "fleuron/fleuronlaw18.MachineMore", spec := "machineMore", unfollowed := true, recurses := true, apart := false }
def MachineMoreSaid : Prop := machineMoreRow.holds Tryz.pinned (OpenSpec.ofChange machineMoreSpec)

/-- ITS FALSE NEIGHBOUR: 'it returns false'. Refute it at one input. -/
def machineMoreWrong : ChangeSpec := { name := "machineMore", fn := fun _ => fun
  | [d1, d2, d3] => { results := [.lit (.bool false)], args := [d1, d2, d3] }
  | _ => none }
def MachineMoreWrongFalsely : Prop := machineMoreRow.holds Tryz.pinned (OpenSpec.ofChange machineMoreWrong)

/-- 'fleuronlaw18.MachineOwn': WHATEVER THE INPUT: true; the input reads as it did. -/
def machineOwnSpec : ChangeSpec := { name := "machineOwn", fn := fun _ => fun
  | [d] => { results := [.lit (.bool true)], args := [d] }
  | _ => none }
def machineOwnRow : OpenClaim := { program := "ythdmdgmchkhngaagreat", sum := "10b4b9d8c5b3bb0e4767a9beeaaeef157cc51fc8d0aa30a2ed835eb70630727a", func := "fleuron/fleuronlaw18.MachineOwn", spec := "machineOwn", unfollowed := true, recurses := true, apart := false }
def MachineOwnSaid : Prop := machineOwnRow.holds Tryz.pinned (OpenSpec.ofChange machineOwnSpec)

/-- ITS FALSE NEIGHBOUR: 'it returns false'. Refute it at one input. -/
def machineOwnWrong : ChangeSpec := { name := "machineOwn", fn := fun _ => fun
  | [d] => { results := [.lit (.bool false)], args := [d] }
  | _ => none }
def MachineOwnWrongFalsely : Prop := machineOwnRow.holds Tryz.pinned (OpenSpec.ofChange machineOwnWrong)

/-- 'fleuronlaw19.BoundHolds': WHATEVER THE INPUT: true; the input reads as it did. -/
def boundHoldsSpec : ChangeSpec := { name := "boundHolds", fn := fun _ => fun
  | [d1, d2, d3] => { results := [.lit (.bool true)], args := [d1, d2, d3] }
  | _ => none }
def boundHoldsRow : OpenClaim := { program := "ythdmdgmchkhngaagreat", sum := "10b4b9d8c5b3bb0e4767a9beeaaeef157cc51fc8d0aa30a2ed835eb70630727a", func := "fleuron/fleuronlaw19.BoundHolds", spec := "boundHolds", unfollowed := true, recurses := true, apart := false }
def BoundHoldsSaid : Prop := boundHoldsRow.holds Tryz.pinned (OpenSpec.ofChange boundHoldsSpec)

/-- ITS FALSE NEIGHBOUR: 'it returns false'. Refute it at one input. -/
def boundHoldsWrong : ChangeSpec := { name := "boundHolds", fn := fun _ => fun
  | [d1, d2, d3] => { results := [.lit (.bool false)], args := [d1, d2, d3] }
  | _ => none }
def BoundHoldsWrongFalsely : Prop := boundHoldsRow.holds Tryz.pinned (OpenSpec.ofChange boundHoldsWrong)

/-- 'fleuronlaw19.BoundRaw': WHATEVER THE INPUT: true; the input reads as it did. -/
def boundRawSpec : ChangeSpec := { name := "boundRaw", fn := fun _ => fun
  | [d1, d2, d3] => { results := [.lit (.bool true)], args := [d1, d2, d3] }
  | _ => none }
def boundRawRow : OpenClaim := { program := "ythdmdgmchkhngaagreat", sum := "10b4b9d8c5b3bb0e4767a9beeaaeef157cc51fc8d0aa30a2ed835eb70630727a", func := "fleuron/fleuronlaw19.BoundRaw", spec := "boundRaw", unfollowed := true, recurses := true, apart := false }
def BoundRawSaid : Prop := boundRawRow.holds Tryz.pinned (OpenSpec.ofChange boundRawSpec)

/-- ITS FALSE NEIGHBOUR: 'it returns false'. Refute it at one input. -/
def boundRawWrong : ChangeSpec := { name := "boundRaw", fn := fun _ => fun
  | [d1, d2, d3] => { results := [.lit (.bool false)], args := [d1, d2, d3] }
  | _ => none }
def BoundRawWrongFalsely : Prop := boundRawRow.holds Tryz.pinned (OpenSpec.ofChange boundRawWrong)

/- THE SECOND FORM. 'bulk': how many values and letters a reading holds, each counted each time it is reached (what is shared counts as often as it is met; a slice's spare places count too). A statement '..UptoSaid' is the law's where the arguments, and the package variables that the reading takes, are together of bulk at most 1048576: NARROWER than '..Said'. Prove '..Said' where nothing that the law and all that it calls make is longer than what came in: it says more and counts as full. Else prove '..UptoSaid'. A law counts once. -/
mutual
def uptoBulk {H : Type} : DataW H → Nat
  | .lit (.string bytes) => bytes.length + 1
  | .lit _ => 1
  | .nil => 1
  | .ptr d => uptoBulk d + 1
  | .slice elems spare => uptoBulkAll elems + uptoBulkAll spare + 1
  | .agg parts => uptoBulkAll parts + 1
  | .iface _ d => uptoBulk d + 1
  | .map entries => uptoBulkEntries entries + 1
  | .held _ => 1
def uptoBulkAll {H : Type} : List (DataW H) → Nat
  | [] => 0
  | d :: r => uptoBulk d + uptoBulkAll r
def uptoBulkEntries {H : Type} : List (Lit × DataW H) → Nat
  | [] => 0
  | x :: r => uptoBulkEntry x + uptoBulkEntries r
def uptoBulkEntry {H : Type} : Lit × DataW H → Nat
  | (.string bytes, d) => bytes.length + uptoBulk d + 1
  | (_, d) => uptoBulk d + 1
 end
def uptoSmall : (H : Type) → List (DataW H) → Bool := fun _ ds => decide (uptoBulkAll ds ≤ 1048576)
def OpenSpec.upto (s : _root_.Go.ChangeSpec) : _root_.Go.OpenSpec := { _root_.Go.OpenSpec.ofChange s with cond := some uptoSmall }

/-- 'fleuronlaw18.MachineRuns', WHERE WHAT IT READS IS OF BULK AT MOST 1048576: true; the input reads as it did. -/
def machineRunsUptoRow : OpenClaim := { program := "ythdmdgmchkhngaagreat", sum := "10b4b9d8c5b3bb0e4767a9beeaaeef157cc51fc8d0aa30a2ed835eb70630727a", func := "fleuron/fleuronlaw18.MachineRuns", spec := "machineRuns", unfollowed := true, recurses := true, apart := false, narrowed := true }
def MachineRunsUptoSaid : Prop := machineRunsUptoRow.holds Tryz.pinned (OpenSpec.upto machineRunsSpec)

/-- 'fleuronlaw18.MachineSteps', WHERE WHAT IT READS IS OF BULK AT MOST 1048576: true; the input reads as it did. -/
def machineStepsUptoRow : OpenClaim := { program := "ythdmdgmchkhngaagreat", sum := "10b4b9d8c5b3bb0e4767a9beeaaeef157cc51fc8d0aa30a2ed835eb70630727a", func := "fleuron/fleuronlaw18.MachineSteps", spec := "machineSteps", unfollowed := true, recurses := true, apart := false, narrowed := true }
def MachineStepsUptoSaid : Prop := machineStepsUptoRow.holds Tryz.pinned (OpenSpec.upto machineStepsSpec)

/-- 'fleuronlaw18.MachineMore', WHERE WHAT IT READS IS OF BULK AT MOST 1048576: true; the input reads as it did. -/
def machineMoreUptoRow : OpenClaim := { program := "ythdmdgmchkhngaagreat", sum := "10b4b9d8c5b3bb0e4767a9beeaaeef157cc51fc8d0aa30a2ed835eb70630727a", func := "fleuron/fleuronlaw18.MachineMore", spec := "machineMore", unfollowed := true, recurses := true, apart := false, narrowed := true }
def MachineMoreUptoSaid : Prop := machineMoreUptoRow.holds Tryz.pinned (OpenSpec.upto machineMoreSpec)

/-- 'fleuronlaw18.MachineOwn', WHERE WHAT IT READS IS OF BULK AT MOST 1048576: true; the input reads as it did. -/
def machineOwnUptoRow : OpenClaim := { program := "ythdmdgmchkhngaagreat", sum := "10b4b9d8c5b3bb0e4767a9beeaaeef157cc51fc8d0aa30a2ed835eb70630727a", func := "fleuron/fleuronlaw18.MachineOwn", spec := "machineOwn", unfollowed := true, recurses := true, apart := false, narrowed := true }
def MachineOwnUptoSaid : Prop := machineOwnUptoRow.holds Tryz.pinned (OpenSpec.upto machineOwnSpec)

/-- 'fleuronlaw19.BoundHolds', WHERE WHAT IT READS IS OF BULK AT MOST 1048576: true; the input reads as it did. -/
def boundHoldsUptoRow : OpenClaim := { program := "ythdmdgmchkhngaagreat", sum := "10b4b9d8c5b3bb0e4767a9beeaaeef157cc51fc8d0aa30a2ed835eb70630727a", func := "fleuron/fleuronlaw19.BoundHolds", spec := "boundHolds", unfollowed := true, recurses := true, apart := false, narrowed := true }
def BoundHoldsUptoSaid : Prop := boundHoldsUptoRow.holds Tryz.pinned (OpenSpec.upto boundHoldsSpec)

/-- 'fleuronlaw19.BoundRaw', WHERE WHAT IT READS IS OF BULK AT MOST 1048576: true; the input reads as it did. -/
def boundRawUptoRow : OpenClaim := { program := "ythdmdgmchkhngaagreat", sum := "10b4b9d8c5b3bb0e4767a9beeaaeef157cc51fc8d0aa30a2ed835eb70630727a", func := "fleuron/fleuronlaw19.BoundRaw", spec := "boundRaw", unfollowed := true, recurses := true, apart := false, narrowed := true }
def BoundRawUptoSaid : Prop := boundRawUptoRow.holds Tryz.pinned (OpenSpec.upto boundRawSpec)

end Rows
end Go.Proofs.YthdmdgmchkhngaaGreat
