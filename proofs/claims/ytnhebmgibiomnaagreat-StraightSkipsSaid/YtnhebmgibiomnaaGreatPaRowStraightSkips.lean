/- The row of StraightSkips: for every input it returns true, and each argument reads as it did. -/
import Derived.Below
import Derived.Carry
import Derived.ChangeOld
import Derived.Deep.Slices
import Derived.Lib.SmallJoins
import Derived.OpenShut
import Derived.ProofKit
import Derived.ShutString
import Derived.Test.YtnhebmgibiomnaaGreatRows
import Derived.Test.YtnhebmgibiomnaaGreatPa32
import Derived.Test.YtnhebmgibiomnaaGreatPa34
set_option linter.unusedVariables false
set_option linter.unusedSimpArgs false
namespace Go.Proofs.YtnhebmgibiomnaaGreat
open Go.ChangeShapes Go.WideShapes Go.ChangeAt Go.RowKit
open Go.ChangeMaps (open_string shut_string)

theorem own_straightSkips : ownKnob Tryz.prog.godebug = none := by kernel_rfl
theorem laidOut_straightSkips : laidOutB Tryz.prog = true := by kernel_rfl

set_option maxRecDepth 100000 in
theorem straightSkips_lifted (os : Go.Os) (started : os.Started) (H : Type) (enc : TypeId × Value → H) :
    ReturnsInHanded {} Tryz.checked os 7 .any (Rows.straightSkipsSpec.pre6 enc Tryz.prog Tryz.f7 Rows.straightSkipsRow.domain false) (Rows.straightSkipsSpec.post enc Tryz.prog Tryz.f7 false true false false) := by
  refine returnsInHanded_of_change (C := Tryz.checked) own_straightSkips started (by kernel_rfl) Tryz.func7
    (ChangeSpec.witness6 (enc := enc) (C := Tryz.checked) false ⟨#[], #[.slice none 0 0, .agg #[.slice none 0 0, .slice none 0 0, .slice none 0 0, .int .i64 0], .agg #[.slice none 0 0, .slice none 0 0, .slice none 0 0, .slice none 0 0]], []⟩ 8 (by kernel_rfl) (by kernel_rfl) (by kernel_rfl) (by kernel_rfl)) ?_
  intro W base args ds gs before hval0 hW hcnd _
  have hval : ∀ (j : Nat) t v, Tryz.f7.params[j]? = some t → args[j]? = some v → Value.okWide Tryz.prog W .any base t v := hval0
  have hW' := hW
  obtain ⟨p, q, hA0, hV, rfl, hfz, hnd⟩ := hW
  have hA : DataW.TrodAll enc Tryz.prog W 0 (fun _ => true) true Tryz.f7.params.toList args.toList ds p := hA0
  rw [Tryz.params7] at hA hval
  obtain ⟨v0, vs0, d0, ds0, p0, q0, hargs, rfl, rfl, h0, r0⟩ := trodAll_cons hA
  obtain ⟨v1, vs1, d1, ds1, p1, q1, rfl, rfl, rfl, h1, r1⟩ := trodAll_cons r0
  obtain ⟨v2, vs2, d2, ds2, p2, q2, rfl, rfl, rfl, h2, r2⟩ := trodAll_cons r1
  obtain ⟨rfl, rfl, rfl⟩ := trodAll_nil r2
  obtain rfl : args = #[v0, v1, v2] := by cases args; simp_all
  obtain ⟨rfl, rfl⟩ := trodVars_none hV
  have k0 := h0
  have lt0 : ∀ x ∈ p0, x.block < W.heap.size := by obtain ⟨m, hm⟩ := k0; exact DataW.trod_lt m _ _ _ hm
  have k1 := h1
  have lt1 : ∀ x ∈ p1, x.block < W.heap.size := by obtain ⟨m, hm⟩ := k1; exact DataW.trod_lt m _ _ _ hm
  have k2 := h2
  have lt2 : ∀ x ∈ p2, x.block < W.heap.size := by obtain ⟨m, hm⟩ := k2; exact DataW.trod_lt m _ _ _ hm
  obtain ⟨f0, hf0⟩ := h0
  obtain ⟨f1, hf1⟩ := h1
  obtain ⟨f2, hf2⟩ := h2
  obtain ⟨A0, n0, c0, rfl⟩ := okWide_slice Tryz.underlying32 (hval 0 32 v0 rfl rfl)
  obtain ⟨l0, _, _, e0, a01, a02, a03⟩ := regs_open hf0
  simp only [Value.cells, List.cons.injEq, Value.slice.injEq, and_true] at e0
  obtain ⟨rfl, rfl, rfl⟩ := e0
  obtain ⟨t1, rfl, _⟩ := okWide_struct Tryz.underlying26 (hval 1 26 v1 rfl rfl)
  obtain ⟨ll1, ml1, cv1, sz1, fA1, mA1, cA1, fc1, mc1, cc1, e1, a11, a12, a13, a14, a15, a16, a17⟩ := prog_open hf1
  obtain rfl : t1 = #[.slice fA1 ll1.length fc1, .slice mA1 ml1.length mc1, .slice cA1 cv1.length cc1, .int .i64 sz1] := by apply Array.toList_inj.1; exact e1
  obtain ⟨t2, rfl, _⟩ := okWide_struct Tryz.underlying30 (hval 2 30 v2 rfl rfl)
  obtain ⟨z2, oA2, uA2, tA2, eA2, oc2, uc2, tc2, ec2, e2, a21, a22, a23, a24, a25⟩ := zone_open hf2
  obtain rfl : t2 = #[.slice oA2 z2.org.length oc2, .slice uA2 z2.cur.length uc2, .slice tA2 z2.touch.length tc2, .slice eA2 z2.ends.length ec2] := by apply Array.toList_inj.1; exact e2
  clear hA0 hval0
  refine (straightSkips_walk l0 cv1 sz1 z2 A0 fA1 mA1 cA1 oA2 uA2 tA2 eA2 c0 ll1.length fc1 ml1.length mc1 cc1 oc2 uc2 tc2 ec2 W a01 a02 a03 a16 a25).mono fun e W' ⟨he, bel⟩ => ?_
  subst he
  exact ⟨_, rfl, _, _, _, [], _, [], hW', trodAll_mk1 (shut_bool Tryz.underlying4 _), (trodAll_cons_mk (Below.trod laidOut_straightSkips (by kernel_rfl) (of_decide_eq_true (by kernel_rfl)) k0 bel lt0) (trodAll_cons_mk (Below.trod laidOut_straightSkips (by kernel_rfl) (of_decide_eq_true (by kernel_rfl)) k1 bel lt1) (trodAll_cons_mk (Below.trod laidOut_straightSkips (by kernel_rfl) (of_decide_eq_true (by kernel_rfl)) k2 bel lt2) trodAll_mk0))), rfl, bel.frame _, fun h => by cases h⟩

theorem straightSkips_holds : Rows.StraightSkipsSaid :=
  OpenClaim.holds_of_wide 7 Tryz.f7 rfl rfl rfl rfl rfl rfl rfl ⟨rfl, rfl, rfl, rfl, rfl⟩ rfl rfl rfl rfl rfl (by kernel_rfl) Tryz.func7 (by kernel_rfl)
    (of_decide_eq_true (by kernel_rfl)) (by unfold Func.isWrapper; first | (rw [if_pos (by decide +kernel)]; kernel_rfl) | (rw [if_neg (by decide +kernel)]; exact ⟨rfl, rfl⟩))
    (fun os started H enc _ => straightSkips_lifted os started H enc)
#print axioms straightSkips_holds
end Go.Proofs.YtnhebmgibiomnaaGreat
