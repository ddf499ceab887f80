/- The row of MachineInter: for every input it returns true, and each argument reads as it did. -/
import Derived.Test.YthdmdgmchkhngaaLwF
import Derived.Test.YthdmdgmchkhngaaArr
import Derived.Test.YthdmdgmchkhngaaRows
import Derived.ProofKit
import Derived.OpenShut
import Derived.Lib.SmallJoins
import Derived.Deep.Slices
import Derived.Carry
import Derived.ShutString
import Derived.ChangeOld
import Derived.Below
namespace Go.Proofs.Ythdmdgmchkhngaa
open Go.ChangeShapes Go.WideShapes Go.ChangeAt Go.RowKit
open Go.ChangeMaps (open_string shut_string)

theorem own_machineInter : ownKnob Try.prog.godebug = none := by kernel_rfl
theorem laidOut_machineInter : laidOutB Try.prog = true := by kernel_rfl

set_option maxRecDepth 100000 in
theorem machineInter_lifted (os : Go.Os) (started : os.Started) (H : Type) (enc : TypeId × Value → H) :
    ReturnsInHanded {} Try.checked os 5 .any (Rows.machineInterSpec.pre6 enc Try.prog Try.f5 Rows.machineInterRow.domain false) (Rows.machineInterSpec.post enc Try.prog Try.f5 false true false false) := by
  refine returnsInHanded_of_change (C := Try.checked) own_machineInter started (by kernel_rfl) Try.func5
    (ChangeSpec.witness6 (enc := enc) (C := Try.checked) false ⟨#[], #[.agg #[.int .i64 0, .int .i64 0, .int .i64 0], .agg #[.int .i64 0, .int .i64 0]], []⟩ 8 (by kernel_rfl) (by kernel_rfl) (by kernel_rfl) (by kernel_rfl)) ?_
  intro W base args ds gs before hval0 hW hcnd _
  have hval : ∀ (j : Nat) t v, Try.f5.params[j]? = some t → args[j]? = some v → Value.okWide Try.prog W .any base t v := hval0
  have hW' := hW
  obtain ⟨p, q, hA0, hV, rfl, hfz, hnd⟩ := hW
  have hA : DataW.TrodAll enc Try.prog W 0 (fun _ => true) true Try.f5.params.toList args.toList ds p := hA0
  rw [Try.params5] at hA hval
  obtain ⟨v0, vs0, d0, ds0, p0, q0, hargs, rfl, rfl, h0, r0⟩ := trodAll_cons hA
  obtain ⟨v1, vs1, d1, ds1, p1, q1, rfl, rfl, rfl, h1, r1⟩ := trodAll_cons r0
  obtain ⟨rfl, rfl, rfl⟩ := trodAll_nil r1
  obtain rfl : args = #[v0, v1] := by cases args; simp_all
  obtain ⟨rfl, rfl⟩ := trodVars_none hV
  have k0 := h0
  have lt0 : ∀ x ∈ p0, x.block < W.heap.size := by obtain ⟨m, hm⟩ := k0; exact DataW.trod_lt m _ _ _ hm
  have k1 := h1
  have lt1 : ∀ x ∈ p1, x.block < W.heap.size := by obtain ⟨m, hm⟩ := k1; exact DataW.trod_lt m _ _ _ hm
  obtain ⟨f0, hf0⟩ := h0
  obtain ⟨f1, hf1⟩ := h1
  obtain ⟨s0, rfl, _⟩ := okWide_array Try.underlying26 (hval 0 26 v0 rfl rfl)
  obtain ⟨s1, rfl, _⟩ := okWide_array Try.underlying27 (hval 1 27 v1 rfl rfl)
  obtain ⟨l0, e0, n0, _⟩ := open_nums Try.underlying26 Try.underlying3 (by kernel_rfl) (by kernel_rfl) hf0
  obtain ⟨l1, e1, n1, _⟩ := open_nums Try.underlying27 Try.underlying3 (by kernel_rfl) (by kernel_rfl) hf1
  obtain ⟨x0, x1, x2, rfl⟩ : ∃ a b c, l0 = [a, b, c] := by match l0, n0 with | [a, b, c], _ => exact ⟨a, b, c, rfl⟩
  obtain ⟨y0, y1, rfl⟩ : ∃ a b, l1 = [a, b] := by match l1, n1 with | [a, b], _ => exact ⟨a, b, rfl⟩
  obtain rfl : s0 = #[.int .i64 x0, .int .i64 x1, .int .i64 x2] := by apply Array.toList_inj.1; exact e0
  obtain rfl : s1 = #[.int .i64 y0, .int .i64 y1] := by apply Array.toList_inj.1; exact e1
  clear hA0 hval0
  refine (machineInter_walk x0 x1 x2 y0 y1 W).mono fun e W' ⟨he, bel⟩ => ?_
  subst he
  exact ⟨_, rfl, _, _, _, [], _, [], hW', trodAll_mk1 (shut_bool Try.underlying4 _), (trodAll_cons_mk (Below.trod laidOut_machineInter (by kernel_rfl) (of_decide_eq_true (by kernel_rfl)) k0 bel lt0) (trodAll_cons_mk (Below.trod laidOut_machineInter (by kernel_rfl) (of_decide_eq_true (by kernel_rfl)) k1 bel lt1) trodAll_mk0)), rfl, bel.frame _, fun h => by cases h⟩

theorem machineInter_holds : Rows.MachineInterSaid :=
  OpenClaim.holds_of_wide 5 Try.f5 rfl rfl rfl rfl rfl rfl rfl ⟨rfl, rfl, rfl, rfl, rfl⟩ rfl rfl rfl rfl rfl (by kernel_rfl) Try.func5 (by kernel_rfl)
    (of_decide_eq_true (by kernel_rfl)) (by unfold Func.isWrapper; first | (rw [if_pos (by decide +kernel)]; kernel_rfl) | (rw [if_neg (by decide +kernel)]; exact ⟨rfl, rfl⟩))
    (fun os started H enc _ => machineInter_lifted os started H enc)
#print axioms machineInter_holds
end Go.Proofs.Ythdmdgmchkhngaa
