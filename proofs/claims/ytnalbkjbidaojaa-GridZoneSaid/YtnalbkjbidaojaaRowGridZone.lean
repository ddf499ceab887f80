/- The row of GridZone: for every input it returns true, and each argument reads as it did. -/
import Derived.Test.YtnalbkjbidaojaaGridZone
import Derived.Test.YtnalbkjbidaojaaOpenO
import Derived.Test.YtnalbkjbidaojaaArr
import Derived.Test.YtnalbkjbidaojaaRows
import Derived.ProofKit
import Derived.OpenShut
import Derived.Lib.SmallJoins
import Derived.Deep.Slices
import Derived.Carry
import Derived.ShutString
import Derived.ChangeOld
import Derived.Below
namespace Go.Proofs.Ytnalbkjbidaojaa
open Go.ChangeShapes Go.WideShapes Go.ChangeAt Go.RowKit
open Go.ChangeMaps (open_string shut_string)

theorem own_gridZone : ownKnob Try.prog.godebug = none := by kernel_rfl
theorem laidOut_gridZone : laidOutB Try.prog = true := by kernel_rfl

set_option maxRecDepth 100000 in
theorem gridZone_lifted (os : Go.Os) (started : os.Started) (H : Type) (enc : TypeId × Value → H) :
    ReturnsInHanded {} Try.checked os 5 .any (Rows.gridZoneSpec.pre6 enc Try.prog Try.f5 Rows.gridZoneRow.domain false) (Rows.gridZoneSpec.post enc Try.prog Try.f5 false true false false) := by
  refine returnsInHanded_of_change (C := Try.checked) own_gridZone started (by kernel_rfl) Try.func5
    (ChangeSpec.witness6 (enc := enc) (C := Try.checked) false ⟨#[], #[.agg #[.slice none 0 0, .slice none 0 0], .slice none 0 0, .agg #[.int .i64 0, .int .i64 0, .int .i64 0]], []⟩ 8 (by kernel_rfl) (by kernel_rfl) (by kernel_rfl) (by kernel_rfl)) ?_
  intro W base args ds gs before hval0 hW hcnd _
  have hval : ∀ (j : Nat) t v, Try.f5.params[j]? = some t → args[j]? = some v → Value.okWide Try.prog W .any base t v := hval0
  have hW' := hW
  obtain ⟨p, q, hA0, hV, rfl, hfz, hnd⟩ := hW
  have hA : DataW.TrodAll enc Try.prog W 0 (fun _ => true) true Try.f5.params.toList args.toList ds p := hA0
  rw [Try.params5] at hA hval
  obtain ⟨v0, vs0, d0, ds0, p0, q0, hargs, rfl, rfl, h0, r0⟩ := trodAll_cons hA
  obtain ⟨v1, vs1, d1, ds1, p1, q1, rfl, rfl, rfl, h1, r1⟩ := trodAll_cons r0
  obtain ⟨v2, vs2, d2, ds2, p2, q2, rfl, rfl, rfl, h2, r2⟩ := trodAll_cons r1
  obtain ⟨rfl, rfl, rfl⟩ := trodAll_nil r2
  obtain rfl : args = #[v0, v1, v2] := by cases args; simp_all
  obtain ⟨rfl, rfl⟩ := trodVars_none hV
  have k0 := h0
  have lt0 : ∀ x ∈ p0, x.block < W.heap.size := by obtain ⟨m, hm⟩ := k0; exact DataW.trod_lt m _ _ _ hm
  have k1 := h1
  have lt1 : ∀ x ∈ p1, x.block < W.heap.size := by obtain ⟨m, hm⟩ := k1; exact DataW.trod_lt m _ _ _ hm
  have k2 := h2
  have lt2 : ∀ x ∈ p2, x.block < W.heap.size := by obtain ⟨m, hm⟩ := k2; exact DataW.trod_lt m _ _ _ hm
  obtain ⟨f0, hf0⟩ := h0
  obtain ⟨f1, hf1⟩ := h1
  obtain ⟨f2, hf2⟩ := h2
  obtain ⟨t0, rfl, _⟩ := okWide_struct Try.underlying32 (hval 0 32 v0 rfl rfl)
  obtain ⟨A1, n1, c1, rfl⟩ := okWide_slice Try.underlying30 (hval 1 30 v1 rfl rfl)
  obtain ⟨t2, rfl, _⟩ := okWide_array Try.underlying33 (hval 2 33 v2 rfl rfl)
  obtain ⟨pl, el, pA, eA, pc, ec, e0, a1, a2, a3, a4, a5, a6, a7⟩ := outline_open hf0
  obtain rfl : t0 = #[.slice pA pl.length pc, .slice eA el.length ec] := by apply Array.toList_inj.1; exact e0
  obtain ⟨xs, _, _, e1, b1, b2, b3⟩ := opens_numrow _ _ _ hf1
  simp only [Value.cells, List.cons.injEq, Value.slice.injEq, and_true] at e1
  obtain ⟨rfl, rfl, rfl⟩ := e1
  obtain ⟨l2, e2, n2, i2⟩ := open_nums Try.underlying33 Try.underlying3 (by kernel_rfl) (by kernel_rfl) hf2
  obtain ⟨y0, y1, y2, rfl⟩ : ∃ a b c, l2 = [a, b, c] := by match l2, n2 with | [a, b, c], _ => exact ⟨a, b, c, rfl⟩
  obtain rfl : t2 = #[.int .i64 y0, .int .i64 y1, .int .i64 y2] := by apply Array.toList_inj.1; exact e2
  have hxr : Reads W W.heap.size 1 A1 xs.length (ints xs) := by have h := b3.reads (fun x => [.int .i64 x]) fun a cs h => h.1; rw [ints_flatF] at h; exact h
  have hxi : ∀ x ∈ xs, I64 x := fun x hx => by obtain ⟨i, hi⟩ := List.getElem?_of_mem hx; obtain ⟨_, _, _, _, _, hr, _⟩ := b3.get hi; exact hr.2
  clear hA0 hval0
  refine ((gridZone_walk W pA eA A1 pc ec c1 pl el xs y0 y1 y2 a5 a6 hxr (Nat.le_trans a1 a2) (Nat.le_trans a3 a4) (Nat.le_trans b1 b2) a1 a3 b1 a7 hxi (i2 _ (by simp)))).mono fun e W' ⟨he, bel⟩ => ?_
  subst he
  exact ⟨_, rfl, _, _, _, [], _, [], hW', trodAll_mk1 (shut_bool Try.underlying4 _), (trodAll_cons_mk (Below.trod laidOut_gridZone (by kernel_rfl) (of_decide_eq_true (by kernel_rfl)) k0 bel lt0) (trodAll_cons_mk (Below.trod laidOut_gridZone (by kernel_rfl) (of_decide_eq_true (by kernel_rfl)) k1 bel lt1) (trodAll_cons_mk (Below.trod laidOut_gridZone (by kernel_rfl) (of_decide_eq_true (by kernel_rfl)) k2 bel lt2) trodAll_mk0))), rfl, bel.frame _, fun h => by cases h⟩

theorem gridZone_holds : Rows.GridZoneSaid :=
  OpenClaim.holds_of_wide 5 Try.f5 rfl rfl rfl rfl rfl rfl rfl ⟨rfl, rfl, rfl, rfl, rfl⟩ rfl rfl rfl rfl rfl (by kernel_rfl) Try.func5 (by kernel_rfl)
    (of_decide_eq_true (by kernel_rfl)) (by unfold Func.isWrapper; first | (rw [if_pos (by decide +kernel)]; kernel_rfl) | (rw [if_neg (by decide +kernel)]; exact ⟨rfl, rfl⟩))
    (fun os started H enc _ => gridZone_lifted os started H enc)
#print axioms gridZone_holds
end Go.Proofs.Ytnalbkjbidaojaa
