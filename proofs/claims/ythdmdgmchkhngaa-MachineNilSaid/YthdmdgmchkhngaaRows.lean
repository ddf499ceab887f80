/-
  No cell of these rows narrows 'for every input' (looked for: loops, veiled, ifaces, maps, wideKeys, modest, calm, conditions, laid).
  DERIVED. THE GIVEN ROWS OF THIS SEAT. 4 by the template 'for every input the law returns true; each argument reads behind the call as it read before'; 0 by the template 'total and deterministic' (their statements: YthdmdgmchkhngaaTotals.lean).
  GIVEN WITH THE SEED: the statements are not yours to turn. If you find one false, say at which input.
  Laid BY PROGRAM, IN A SANDBOX (cutbox-rows.mjs): the forced cells as the released guide's own fill.sh prints them over the translation 1854164b0d5d8217… (all of the seat's roots in one cut). By AI agents, Wed Nov 11 2026. No macro, syntax, notation, axiom, sorry.
-/
import Derived.Test.YthdmdgmchkhngaaChecked
import GoSem.Claim
import GoSem.ClaimJoined
import GoSem.ClaimMapViews
import Derived.JoinedTies
import Derived.KernelRfl
namespace Go.Proofs.Ythdmdgmchkhngaa
/- THE CELL 'sum', in the pinned program and in every row, IS THE sha256 OF THE DUMP (.gsa) THAT YthdmdgmchkhngaaProg.lean LOADS. Nothing in Lean hashes anything: it is a label: what it is worth is what the hold of that sum in a sandbox is worth. -/
noncomputable def Try.pinned : Pinned := { name := "ythdmdgmchkhngaa", sum := "1854164b0d5d8217a6b08f5d53a695f8d2d01f1d69f9f7ab6b17d8461af12ea0", checked := Try.checked }
namespace Rows
def none {H : Type} : Left H := { results := [], args := [] }

/-- 'fleuronlaw18.MachineRounds': WHATEVER THE INPUT: true; the input reads as it did. -/
def machineRoundsSpec : ChangeSpec := { name := "machineRounds", fn := fun _ => fun
  | [d1, d2] => { results := [.lit (.bool true)], args := [d1, d2] }
  | _ => none }
def machineRoundsRow : OpenClaim := { program := "ythdmdgmchkhngaa", sum := "1854164b0d5d8217a6b08f5d53a695f8d2d01f1d69f9f7ab6b17d8461af12ea0", func := "fleuron/fleuronlaw18.MachineRounds", spec := "machineRounds", unfollowed := true, recurses := true, apart := false }
def MachineRoundsSaid : Prop := machineRoundsRow.holds Try.pinned (OpenSpec.ofChange machineRoundsSpec)

/-- ITS FALSE NEIGHBOUR: 'it returns false'. Refute it at one input. -/
def machineRoundsWrong : ChangeSpec := { name := "machineRounds", fn := fun _ => fun
  | [d1, d2] => { results := [.lit (.bool false)], args := [d1, d2] }
  | _ => none }
def MachineRoundsWrongFalsely : Prop := machineRoundsRow.holds Try.pinned (OpenSpec.ofChange machineRoundsWrong)

/-- 'fleuronlaw18.MachineSums': WHATEVER THE INPUT: true; the input reads as it did. -/
def machineSumsSpec : ChangeSpec := { name := "machineSums", fn := fun _ => fun
  | [d1, d2] => { results := [.lit (.bool true)], args := [d1, d2] }
  | _ => none }
def machineSumsRow : OpenClaim := { program := "ythdmdgmchkhngaa", sum := "1854164b0d5d8217a6b08f5d53a695f8d2d01f1d69f9f7ab6b17d8461af12ea0", func := "fleuron/fleuronlaw18.MachineSums", spec := "machineSums", unfollowed := true, recurses := true, apart := false }
def MachineSumsSaid : Prop := machineSumsRow.holds Try.pinned (OpenSpec.ofChange machineSumsSpec)

/-- ITS FALSE NEIGHBOUR: 'it returns false'. Refute it at one input. -/
def machineSumsWrong : ChangeSpec := { name := "machineSums", fn := fun _ => fun
  | [d1, d2] => { results := [.lit (.bool false)], args := [d1, d2] }
  | _ => none }
def MachineSumsWrongFalsely : Prop := machineSumsRow.holds Try.pinned (OpenSpec.ofChange machineSumsWrong)

/-- 'fleuronlaw18.MachineInter': WHATEVER THE INPUT: true; the input reads as it did. -/
def machineInterSpec : ChangeSpec := { name := "machineInter", fn := fun _ => fun
  | [d1, d2] => { results := [.lit (.bool true)], args := [d1, d2] }
  | _ => none }
def machineInterRow : OpenClaim := { program := "ythdmdgmchkhngaa", sum := "1854164b0d5d8217a6b08f5d53a695f8d2d01f1d69f9f7ab6b17d8461af12ea0", func := "fleuron/fleuronlaw18.MachineInter", spec := "machineInter", unfollowed := true, recurses := true, apart := false }
def MachineInterSaid : Prop := machineInterRow.holds Try.pinned (OpenSpec.ofChange machineInterSpec)

/-- ITS FALSE NEIGHBOUR: 'it returns false'. Refute it at one input. -/
def machineInterWrong : ChangeSpec := { name := "machineInter", fn := fun _ => fun
  | [d1, d2] => { results := [.lit (.bool false)], args := [d1, d2] }
  | _ => none }
def MachineInterWrongFalsely : Prop := machineInterRow.holds Try.pinned (OpenSpec.ofChange machineInterWrong)

/-- 'fleuronlaw18.MachineNil': WHATEVER THE INPUT: true; the input reads as it did. -/
def machineNilSpec : ChangeSpec := { name := "machineNil", fn := fun _ => fun
  | [d1, d2] => { results := [.lit (.bool true)], args := [d1, d2] }
  | _ => none }
def machineNilRow : OpenClaim := { program := "ythdmdgmchkhngaa", sum := "1854164b0d5d8217a6b08f5d53a695f8d2d01f1d69f9f7ab6b17d8461af12ea0", func := "fleuron/fleuronlaw18.MachineNil", spec := "machineNil", unfollowed := true, recurses := true, apart := false }
def MachineNilSaid : Prop := machineNilRow.holds Try.pinned (OpenSpec.ofChange machineNilSpec)

/-- ITS FALSE NEIGHBOUR: 'it returns false'. Refute it at one input. -/
def machineNilWrong : ChangeSpec := { name := "machineNil", fn := fun _ => fun
  | [d1, d2] => { results := [.lit (.bool false)], args := [d1, d2] }
  | _ => none }
def MachineNilWrongFalsely : Prop := machineNilRow.holds Try.pinned (OpenSpec.ofChange machineNilWrong)

/- THE SECOND FORM. 'bulk': how many values and letters a reading holds, each counted each time it is reached (what is shared counts as often as it is met; a slice's spare places count too). A statement '..UptoSaid' is the law's where the arguments, and the package variables that the reading takes, are together of bulk at most 1048576: NARROWER than '..Said'. Prove '..Said' where nothing that the law and all that it calls make is longer than what came in: it says more and counts as full. Else prove '..UptoSaid'. A law counts once. -/
mutual
def uptoBulk {H : Type} : DataW H → Nat
  | .lit (.string bytes) => bytes.length + 1
  | .lit _ => 1
  | .nil => 1
  | .ptr d => uptoBulk d + 1
  | .slice elems spare => uptoBulkAll elems + uptoBulkAll spare + 1
  | .agg parts => uptoBulkAll parts + 1
  | .iface _ d => uptoBulk d + 1
  | .map entries => uptoBulkEntries entries + 1
  | .held _ => 1
def uptoBulkAll {H : Type} : List (DataW H) → Nat
  | [] => 0
  | d :: r => uptoBulk d + uptoBulkAll r
def uptoBulkEntries {H : Type} : List (Lit × DataW H) → Nat
  | [] => 0
  | x :: r => uptoBulkEntry x + uptoBulkEntries r
def uptoBulkEntry {H : Type} : Lit × DataW H → Nat
  | (.string bytes, d) => bytes.length + uptoBulk d + 1
  | (_, d) => uptoBulk d + 1
 end
def uptoSmall : (H : Type) → List (DataW H) → Bool := fun _ ds => decide (uptoBulkAll ds ≤ 1048576)
def OpenSpec.upto (s : _root_.Go.ChangeSpec) : _root_.Go.OpenSpec := { _root_.Go.OpenSpec.ofChange s with cond := some uptoSmall }

/-- 'fleuronlaw18.MachineRounds', WHERE WHAT IT READS IS OF BULK AT MOST 1048576: true; the input reads as it did. -/
def machineRoundsUptoRow : OpenClaim := { program := "ythdmdgmchkhngaa", sum := "1854164b0d5d8217a6b08f5d53a695f8d2d01f1d69f9f7ab6b17d8461af12ea0", func := "fleuron/fleuronlaw18.MachineRounds", spec := "machineRounds", unfollowed := true, recurses := true, apart := false, narrowed := true }
def MachineRoundsUptoSaid : Prop := machineRoundsUptoRow.holds Try.pinned (OpenSpec.upto machineRoundsSpec)

/-- 'fleuronlaw18.MachineSums', WHERE WHAT IT READS IS OF BULK AT MOST 1048576: true; the input reads as it did. -/
def machineSumsUptoRow : OpenClaim := { program := "ythdmdgmchkhngaa", sum := "1854164b0d5d8217a6b08f5d53a695f8d2d01f1d69f9f7ab6b17d8461af12ea0", func := "fleuron/fleuronlaw18.MachineSums", spec := "machineSums", unfollowed := true, recurses := true, apart := false, narrowed := true }
def MachineSumsUptoSaid : Prop := machineSumsUptoRow.holds Try.pinned (OpenSpec.upto machineSumsSpec)

/-- 'fleuronlaw18.MachineInter', WHERE WHAT IT READS IS OF BULK AT MOST 1048576: true; the input reads as it did. -/
def machineInterUptoRow : OpenClaim := { program := "ythdmdgmchkhngaa", sum := "1854164b0d5d8217a6b08f5d53a695f8d2d01f1d69f9f7ab6b17d8461af12ea0", func := "fleuron/fleuronlaw18.MachineInter", spec := "machineInter", unfollowed := true, recurses := true, apart := false, narrowed := true }
def MachineInterUptoSaid : Prop := machineInterUptoRow.holds Try.pinned (OpenSpec.upto machineInterSpec)

/-- 'fleuronlaw18.MachineNil', WHERE WHAT IT READS IS OF BULK AT MOST 1048576: true; the input reads as it did. -/
def machineNilUptoRow : OpenClaim := { program := "ythdmdgmchkhngaa", sum := "1854164b0d5d8217a6b08f5d53a695f8d2d01f1d69f9f7ab6b17d8461af12ea0", func := "fleuron/fleuronlaw18.MachineNil", spec := "machineNil", unfollowed := true, recurses := true, apart := false, narrowed := true }
def MachineNilUptoSaid : Prop := machineNilUptoRow.holds Try.pinned (OpenSpec.upto machineNilSpec)

end Rows
end Go.Proofs.Ythdmdgmchkhngaa
