/-
  No cell of these rows narrows 'for every input' (looked for: loops, veiled, ifaces, maps, wideKeys, modest, calm, conditions, laid).
  DERIVED. THE GIVEN ROWS OF THIS SEAT. 6 by the template 'for every input the law returns true; each argument reads behind the call as it read before'; 0 by the template 'total and deterministic' (their statements: YtgklchhgpnoliaaTotals.lean).
  GIVEN WITH THE SEED: the statements are not yours to turn. If you find one false, say at which input.
  Laid BY PROGRAM, IN A SANDBOX (cutbox-rows.mjs): the forced cells as the released guide's own fill.sh prints them over the translation 1dbcaba905d77b33… (all of the seat's roots in one cut). By AI agents, Wed Nov 11 2026. No macro, syntax, notation, axiom, sorry.
-/
import Derived.Test.YtgklchhgpnoliaaChecked
import GoSem.Claim
import GoSem.ClaimJoined
import GoSem.ClaimMapViews
import Derived.JoinedTies
import Derived.KernelRfl
namespace Go.Proofs.Ytgklchhgpnoliaa
/- THE CELL 'sum', in the pinned program and in every row, IS THE sha256 OF THE DUMP (.gsa) THAT YtgklchhgpnoliaaProg.lean LOADS. Nothing in Lean hashes anything: it is a label: what it is worth is what the hold of that sum in a sandbox is worth. -/
noncomputable def Try.pinned : Pinned := { name := "ytgklchhgpnoliaa", sum := "1dbcaba905d77b33f479859eb442ec1071fc1d28268ce16efbdf047fbf81b9f6", checked := Try.checked }
namespace Rows
def none {H : Type} : Left H := { results := [], args := [] }

/-- 'fleuronlaw19.BoundStraight': WHATEVER THE INPUT: true; the input reads as it did. -/
def boundStraightSpec : ChangeSpec := { name := "boundStraight", fn := fun _ => fun
  | [d] => { results := [.lit (.bool true)], args := [d] }
  | _ => none }
def boundStraightRow : OpenClaim := { program := "ytgklchhgpnoliaa", sum := "1dbcaba905d77b33f479859eb442ec1071fc1d28268ce16efbdf047fbf81b9f6", func := "fleuron/fleuronlaw19.BoundStraight", spec := "boundStraight", unfollowed := true, recurses := true, apart := false }
def BoundStraightSaid : Prop := boundStraightRow.holds Try.pinned (OpenSpec.ofChange boundStraightSpec)

/-- ITS FALSE NEIGHBOUR: 'it returns false'. Refute it at one input. -/
def boundStraightWrong : ChangeSpec := { name := "boundStraight", fn := fun _ => fun
  | [d] => { results := [.lit (.bool false)], args := [d] }
  | _ => none }
def BoundStraightWrongFalsely : Prop := boundStraightRow.holds Try.pinned (OpenSpec.ofChange boundStraightWrong)

/-- 'fleuronlaw19.BoundBack': WHATEVER THE INPUT: true; the input reads as it did. -/
def boundBackSpec : ChangeSpec := { name := "boundBack", fn := fun _ => fun
  | [d1, d2, d3] => { results := [.lit (.bool true)], args := [d1, d2, d3] }
  | _ => none }
def boundBackRow : OpenClaim := { program := "ytgklchhgpnoliaa", sum := "1dbcaba905d77b33f479859eb442ec1071fc1d28268ce16efbdf047fbf81b9f6", func := "fleuron/fleuronlaw19.BoundBack", spec := "boundBack", unfollowed := true, recurses := true, apart := false }
def BoundBackSaid : Prop := boundBackRow.holds Try.pinned (OpenSpec.ofChange boundBackSpec)

/-- ITS FALSE NEIGHBOUR: 'it returns false'. Refute it at one input. -/
def boundBackWrong : ChangeSpec := { name := "boundBack", fn := fun _ => fun
  | [d1, d2, d3] => { results := [.lit (.bool false)], args := [d1, d2, d3] }
  | _ => none }
def BoundBackWrongFalsely : Prop := boundBackRow.holds Try.pinned (OpenSpec.ofChange boundBackWrong)

/-- 'fleuronlaw19.BoundDeep': WHATEVER THE INPUT: true; the input reads as it did. -/
def boundDeepSpec : ChangeSpec := { name := "boundDeep", fn := fun _ => fun
  | [d1, d2] => { results := [.lit (.bool true)], args := [d1, d2] }
  | _ => none }
def boundDeepRow : OpenClaim := { program := "ytgklchhgpnoliaa", sum := "1dbcaba905d77b33f479859eb442ec1071fc1d28268ce16efbdf047fbf81b9f6", func := "fleuron/fleuronlaw19.BoundDeep", spec := "boundDeep", unfollowed := true, recurses := true, apart := false }
def BoundDeepSaid : Prop := boundDeepRow.holds Try.pinned (OpenSpec.ofChange boundDeepSpec)

/-- ITS FALSE NEIGHBOUR: 'it returns false'. Refute it at one input. -/
def boundDeepWrong : ChangeSpec := { name := "boundDeep", fn := fun _ => fun
  | [d1, d2] => { results := [.lit (.bool false)], args := [d1, d2] }
  | _ => none }
def BoundDeepWrongFalsely : Prop := boundDeepRow.holds Try.pinned (OpenSpec.ofChange boundDeepWrong)

/-- 'fleuronlaw19.BoundPrograms': WHATEVER THE INPUT: true; the input reads as it did. -/
def boundProgramsSpec : ChangeSpec := { name := "boundPrograms", fn := fun _ => fun
  | [d1, d2] => { results := [.lit (.bool true)], args := [d1, d2] }
  | _ => none }
def boundProgramsRow : OpenClaim := { program := "ytgklchhgpnoliaa", sum := "1dbcaba905d77b33f479859eb442ec1071fc1d28268ce16efbdf047fbf81b9f6", func := "fleuron/fleuronlaw19.BoundPrograms", spec := "boundPrograms", unfollowed := true, recurses := true, apart := false }
def BoundProgramsSaid : Prop := boundProgramsRow.holds Try.pinned (OpenSpec.ofChange boundProgramsSpec)

/-- ITS FALSE NEIGHBOUR: 'it returns false'. Refute it at one input. -/
def boundProgramsWrong : ChangeSpec := { name := "boundPrograms", fn := fun _ => fun
  | [d1, d2] => { results := [.lit (.bool false)], args := [d1, d2] }
  | _ => none }
def BoundProgramsWrongFalsely : Prop := boundProgramsRow.holds Try.pinned (OpenSpec.ofChange boundProgramsWrong)

/-- 'fleuronlaw19.BoundMade': WHATEVER THE INPUT: true; the input reads as it did. -/
def boundMadeSpec : ChangeSpec := { name := "boundMade", fn := fun _ => fun
  | [d1, d2] => { results := [.lit (.bool true)], args := [d1, d2] }
  | _ => none }
def boundMadeRow : OpenClaim := { program := "ytgklchhgpnoliaa", sum := "1dbcaba905d77b33f479859eb442ec1071fc1d28268ce16efbdf047fbf81b9f6", func := "fleuron/fleuronlaw19.BoundMade", spec := "boundMade", unfollowed := true, recurses := true, apart := false }
def BoundMadeSaid : Prop := boundMadeRow.holds Try.pinned (OpenSpec.ofChange boundMadeSpec)

/-- ITS FALSE NEIGHBOUR: 'it returns false'. Refute it at one input. -/
def boundMadeWrong : ChangeSpec := { name := "boundMade", fn := fun _ => fun
  | [d1, d2] => { results := [.lit (.bool false)], args := [d1, d2] }
  | _ => none }
def BoundMadeWrongFalsely : Prop := boundMadeRow.holds Try.pinned (OpenSpec.ofChange boundMadeWrong)

/-- 'fleuronlaw19.BoundFonts': WHATEVER THE INPUT: true; the input reads as it did. -/
def boundFontsSpec : ChangeSpec := { name := "boundFonts", fn := fun _ => fun
  | [d1, d2, d3] => { results := [.lit (.bool true)], args := [d1, d2, d3] }
  | _ => none }
def boundFontsRow : OpenClaim := { program := "ytgklchhgpnoliaa", sum := "1dbcaba905d77b33f479859eb442ec1071fc1d28268ce16efbdf047fbf81b9f6", func := "fleuron/fleuronlaw19.BoundFonts", spec := "boundFonts", unfollowed := true, recurses := true, apart := false }
def BoundFontsSaid : Prop := boundFontsRow.holds Try.pinned (OpenSpec.ofChange boundFontsSpec)

/-- ITS FALSE NEIGHBOUR: 'it returns false'. Refute it at one input. -/
def boundFontsWrong : ChangeSpec := { name := "boundFonts", fn := fun _ => fun
  | [d1, d2, d3] => { results := [.lit (.bool false)], args := [d1, d2, d3] }
  | _ => none }
def BoundFontsWrongFalsely : Prop := boundFontsRow.holds Try.pinned (OpenSpec.ofChange boundFontsWrong)

/- THE SECOND FORM. 'bulk': how many values and letters a reading holds, each counted each time it is reached (what is shared counts as often as it is met; a slice's spare places count too). A statement '..UptoSaid' is the law's where the arguments, and the package variables that the reading takes, are together of bulk at most 1048576: NARROWER than '..Said'. Prove '..Said' where nothing that the law and all that it calls make is longer than what came in: it says more and counts as full. Else prove '..UptoSaid'. A law counts once. -/
mutual
def uptoBulk {H : Type} : DataW H → Nat
  | .lit (.string bytes) => bytes.length + 1
  | .lit _ => 1
  | .nil => 1
  | .ptr d => uptoBulk d + 1
  | .slice elems spare => uptoBulkAll elems + uptoBulkAll spare + 1
  | .agg parts => uptoBulkAll parts + 1
  | .iface _ d => uptoBulk d + 1
  | .map entries => uptoBulkEntries entries + 1
  | .held _ => 1
def uptoBulkAll {H : Type} : List (DataW H) → Nat
  | [] => 0
  | d :: r => uptoBulk d + uptoBulkAll r
def uptoBulkEntries {H : Type} : List (Lit × DataW H) → Nat
  | [] => 0
  | x :: r => uptoBulkEntry x + uptoBulkEntries r
def uptoBulkEntry {H : Type} : Lit × DataW H → Nat
  | (.string bytes, d) => bytes.length + uptoBulk d + 1
  | (_, d) => uptoBulk d + 1
 end
def uptoSmall : (H : Type) → List (DataW H) → Bool := fun _ ds => decide (uptoBulkAll ds ≤ 1048576)
def OpenSpec.upto (s : _root_.Go.ChangeSpec) : _root_.Go.OpenSpec := { _root_.Go.OpenSpec.ofChange s with cond := some uptoSmall }

/-- 'fleuronlaw19.BoundStraight', WHERE WHAT IT READS IS OF BULK AT MOST 1048576: true; the input reads as it did. -/
def boundStraightUptoRow : OpenClaim := { program := "ytgklchhgpnoliaa", sum := "1dbcaba905d77b33f479859eb442ec1071fc1d28268ce16efbdf047fbf81b9f6", func := "fleuron/fleuronlaw19.BoundStraight", spec := "boundStraight", unfollowed := true, recurses := true, apart := false, narrowed := true }
def BoundStraightUptoSaid : Prop := boundStraightUptoRow.holds Try.pinned (OpenSpec.upto boundStraightSpec)

/-- 'fleuronlaw19.BoundBack', WHERE WHAT IT READS IS OF BULK AT MOST 1048576: true; the input reads as it did. -/
def boundBackUptoRow : OpenClaim := { program := "ytgklchhgpnoliaa", sum := "1dbcaba905d77b33f479859eb442ec1071fc1d28268ce16efbdf047fbf81b9f6", func := "fleuron/fleuronlaw19.BoundBack", spec := "boundBack", unfollowed := true, recurses := true, apart := false, narrowed := true }
def BoundBackUptoSaid : Prop := boundBackUptoRow.holds Try.pinned (OpenSpec.upto boundBackSpec)

/-- 'fleuronlaw19.BoundDeep', WHERE WHAT IT READS IS OF BULK AT MOST 1048576: true; the input reads as it did. -/
def boundDeepUptoRow : OpenClaim := { program := "ytgklchhgpnoliaa", sum := "1dbcaba905d77b33f479859eb442ec1071fc1d28268ce16efbdf047fbf81b9f6", func := "fleuron/fleuronlaw19.BoundDeep", spec := "boundDeep", unfollowed := true, recurses := true, apart := false, narrowed := true }
def BoundDeepUptoSaid : Prop := boundDeepUptoRow.holds Try.pinned (OpenSpec.upto boundDeepSpec)

/-- 'fleuronlaw19.BoundPrograms', WHERE WHAT IT READS IS OF BULK AT MOST 1048576: true; the input reads as it did. -/
def boundProgramsUptoRow : OpenClaim := { program := "ytgklchhgpnoliaa", sum := "1dbcaba905d77b33f479859eb442ec1071fc1d28268ce16efbdf047fbf81b9f6", func := "fleuron/fleuronlaw19.BoundPrograms", spec := "boundPrograms", unfollowed := true, recurses := true, apart := false, narrowed := true }
def BoundProgramsUptoSaid : Prop := boundProgramsUptoRow.holds Try.pinned (OpenSpec.upto boundProgramsSpec)

/-- 'fleuronlaw19.BoundMade', WHERE WHAT IT READS IS OF BULK AT MOST 1048576: true; the input reads as it did. -/
def boundMadeUptoRow : OpenClaim := { program := "ytgklchhgpnoliaa", sum := "1dbcaba905d77b33f479859eb442ec1071fc1d28268ce16efbdf047fbf81b9f6", func := "fleuron/fleuronlaw19.BoundMade", spec := "boundMade", unfollowed := true, recurses := true, apart := false, narrowed := true }
def BoundMadeUptoSaid : Prop := boundMadeUptoRow.holds Try.pinned (OpenSpec.upto boundMadeSpec)

/-- 'fleuronlaw19.BoundFonts', WHERE WHAT IT READS IS OF BULK AT MOST 1048576: true; the input reads as it did. -/
def boundFontsUptoRow : OpenClaim := { program := "ytgklchhgpnoliaa", sum := "1dbcaba905d77b33f479859eb442ec1071fc1d28268ce16efbdf047fbf81b9f6", func := "fleuron/fleuronlaw19.BoundFonts", spec := "boundFonts", unfollowed := true, recurses := true, apart := false, narrowed := true }
def BoundFontsUptoSaid : Prop := boundFontsUptoRow.holds Try.pinned (OpenSpec.upto boundFontsSpec)

end Rows
end Go.Proofs.Ytgklchhgpnoliaa
