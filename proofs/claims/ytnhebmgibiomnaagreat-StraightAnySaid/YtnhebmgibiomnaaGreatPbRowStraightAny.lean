/- The row of StraightAny: for every input it returns true, and each argument reads as it did. -/
import Derived.Below
import Derived.Carry
import Derived.ChangeOld
import Derived.Deep.Slices
import Derived.Lib.SmallJoins
import Derived.OpenShut
import Derived.ProofKit
import Derived.ShutString
import Derived.Test.YtnhebmgibiomnaaGreatRows
import Derived.Test.YtnhebmgibiomnaaGreatPb3
import Derived.Test.YtnhebmgibiomnaaGreatPb35
import Derived.Test.YtnhebmgibiomnaaGreatPb37
set_option linter.unusedVariables false
set_option linter.unusedSimpArgs false
set_option maxRecDepth 100000
set_option maxHeartbeats 8000000
namespace Go.Proofs.YtnhebmgibiomnaaGreat
open Go.ChangeShapes Go.WideShapes Go.ChangeAt Go.RowKit
open Go.ChangeMaps (open_string shut_string)

theorem Jh : ownKnob Tryz.prog.godebug = none := by kernel_rfl
theorem Dy : laidOutB Tryz.prog = true := by kernel_rfl

set_option maxRecDepth 100000 in
theorem Gp (os : Go.Os) (started : os.Started) (H : Type) (enc : TypeId × Value → H) :
    ReturnsInHanded {} Tryz.checked os 10 .any (Rows.straightAnySpec.pre6 enc Tryz.prog Tryz.f10 Rows.straightAnyRow.domain false) (Rows.straightAnySpec.post enc Tryz.prog Tryz.f10 false true false false) := by
  refine returnsInHanded_of_change (C := Tryz.checked) Jh started (by kernel_rfl) Tryz.func10
    (ChangeSpec.witness6 (enc := enc) (C := Tryz.checked) false ⟨#[], #[.agg #[.slice none 0 0, .slice none 0 0, .slice none 0 0, .int .i64 0], .agg #[.slice none 0 0, .slice none 0 0, .slice none 0 0, .slice none 0 0]], []⟩ 8 (by kernel_rfl) (by kernel_rfl) (by kernel_rfl) (by kernel_rfl)) ?_
  intro W base args ds gs before hval0 hW hcnd _
  have hval : ∀ (j : Nat) t v, Tryz.f10.params[j]? = some t → args[j]? = some v → Value.okWide Tryz.prog W .any base t v := hval0
  have hW' := hW
  obtain ⟨p, q, hA0, hV, rfl, hfz, hnd⟩ := hW
  have hA : DataW.TrodAll enc Tryz.prog W 0 (fun _ => true) true Tryz.f10.params.toList args.toList ds p := hA0
  rw [Tryz.params10] at hA hval
  obtain ⟨v0, vs0, d0, ds0, p0, q0, hargs, rfl, rfl, h0, r0⟩ := trodAll_cons hA
  obtain ⟨v1, vs1, d1, ds1, p1, q1, rfl, rfl, rfl, h1, r1⟩ := trodAll_cons r0
  obtain ⟨rfl, rfl, rfl⟩ := trodAll_nil r1
  obtain rfl : args = #[v0, v1] := by cases args; simp_all
  obtain ⟨rfl, rfl⟩ := trodVars_none hV
  have k0 := h0
  have lt0 : ∀ x ∈ p0, x.block < W.heap.size := by obtain ⟨m, hm⟩ := k0; exact DataW.trod_lt m _ _ _ hm
  have k1 := h1
  have lt1 : ∀ x ∈ p1, x.block < W.heap.size := by obtain ⟨m, hm⟩ := k1; exact DataW.trod_lt m _ _ _ hm
  obtain ⟨f0, hf0⟩ := h0
  obtain ⟨f1, hf1⟩ := h1
  obtain ⟨t0, rfl, _⟩ := okWide_struct Tryz.underlying26 (hval 0 26 v0 rfl rfl)
  obtain ⟨ll0, ml0, cv0, sz0, fA0, mA0, cA0, fc0, mc0, cc0, e0, a01, a02, a03, a04, a05, a06, a07⟩ := Sx hf0
  obtain rfl : t0 = #[.slice fA0 ll0.length fc0, .slice mA0 ml0.length mc0, .slice cA0 cv0.length cc0, .int .i64 sz0] := by apply Array.toList_inj.1; exact e0
  obtain ⟨t1, rfl, _⟩ := okWide_struct Tryz.underlying30 (hval 1 30 v1 rfl rfl)
  obtain ⟨z1, oA1, uA1, tA1, eA1, oc1, uc1, tc1, ec1, e1, a11, a12, a13, a14, b11, b12, b13, b14, a15⟩ := Sa hf1
  obtain rfl : t1 = #[.slice oA1 z1.org.length oc1, .slice uA1 z1.cur.length uc1, .slice tA1 z1.touch.length tc1, .slice eA1 z1.ends.length ec1] := by apply Array.toList_inj.1; exact e1
  clear hA0 hval0
  refine (Ig ll0 ml0 cv0 sz0 z1 fA0 mA0 cA0 oA1 uA1 tA1 eA1 fc0 mc0 cc0 oc1 uc1 tc1 ec1 W a05 a06 a07 a15 a01 a02 a03 a04 a11 a12 a13 a14 b11 b12 b13 b14).mono fun e W' ⟨he, bel⟩ => ?_
  subst he
  exact ⟨_, rfl, _, _, _, [], _, [], hW', trodAll_mk1 (shut_bool Tryz.underlying4 _), (trodAll_cons_mk (Below.trod Dy (by kernel_rfl) (of_decide_eq_true (by kernel_rfl)) k0 bel lt0) (trodAll_cons_mk (Below.trod Dy (by kernel_rfl) (of_decide_eq_true (by kernel_rfl)) k1 bel lt1) trodAll_mk0)), rfl, bel.frame _, fun h => by cases h⟩

theorem straightAny_holds : Rows.StraightAnySaid :=
  OpenClaim.holds_of_wide 10 Tryz.f10 rfl rfl rfl rfl rfl rfl rfl ⟨rfl, rfl, rfl, rfl, rfl⟩ rfl rfl rfl rfl rfl (by kernel_rfl) Tryz.func10 (by kernel_rfl)
    (of_decide_eq_true (by kernel_rfl)) (by unfold Func.isWrapper; first | (rw [if_pos (by decide +kernel)]; kernel_rfl) | (rw [if_neg (by decide +kernel)]; exact ⟨rfl, rfl⟩))
    (fun os started H enc _ => Gp os started H enc)
#print axioms straightAny_holds
end Go.Proofs.YtnhebmgibiomnaaGreat
