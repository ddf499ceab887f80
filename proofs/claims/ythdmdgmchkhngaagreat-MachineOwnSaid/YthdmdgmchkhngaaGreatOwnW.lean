/- What fleuronref18.Made makes ends within 3000 steps. No program in sight. -/
import Derived.Test.YthdmdgmchkhngaaGreatMkB
import Derived.Test.YthdmdgmchkhngaaGreatMcFin
namespace Go.Proofs.YthdmdgmchkhngaaGreat
open Mc

/-- what the functions weigh at most -/
def Wm (j : Nat) : Nat := if j = 0 then 27 else 84
theorem Wm_le (j : Nat) : Wm j ≤ 84 := by unfold Wm; split <;> omega
theorem cw_le {W : Nat → Nat} {S : Nat} : ∀ (l : List (Int × Int)), (∀ x ∈ l, (x.1 = 37 ∨ x.1 = 38) → W x.2.toNat ≤ S) → Mf.cw W l ≤ wt (1 + S) (1 + 16 * S) l
  | [], _ => Nat.le_refl _
  | x :: r, h => by
    have h1 := cw_le r (fun y hy => h y (List.mem_cons_of_mem _ hy))
    have h2 := h x List.mem_cons_self
    rw [Mf.cw, wt, Mf.wI, wtI]
    by_cases c1 : x.1 = 37
    · rw [if_pos c1, if_pos c1]
      have := h2 (.inl c1)
      omega
    · rw [if_neg c1, if_neg c1]
      by_cases c2 : x.1 = 38
      · rw [if_pos c2, if_pos c2]
        have := h2 (.inr c2)
        omega
      · rw [if_neg c2, if_neg c2]
        omega
theorem made_light {fl : List (List (Int × Int))} {ml : List (Int × Int)} (h1 : fl.length ≤ 2) (h2 : FnsOk fl) (h3 : HintOk ml) : (∀ j f, fl[j]? = some f → Mf.cw Wm f ≤ Wm j) ∧ Mf.cw Wm ml ≤ 2947 := by
  refine ⟨fun j f hf => ?_, ?_⟩
  · have hj : j < fl.length := (List.getElem?_eq_some_iff.1 hf).1
    obtain ⟨a, _, c⟩ := h2.2 j f hf
    by_cases h0 : j = 0
    · subst h0
      have q : Mf.cw Wm f ≤ wt 9 (1 + 16 * 8) f := cw_le (W := Wm) (S := 8) f (fun x hx hh => by have := a x hx hh; omega)
      have := c 9 (1 + 16 * 8) (by omega)
      show _ ≤ 27
      omega
    · have hj1 : j = 1 := by omega
      subst hj1
      have q : Mf.cw Wm f ≤ wt 28 (1 + 16 * 27) f := cw_le (W := Wm) (S := 27) f (fun x hx hh => by have := a x hx hh; rw [show x.2 = 0 by omega]; decide)
      have := c 28 (1 + 16 * 27) (by omega)
      show _ ≤ 84
      omega
  · have q : Mf.cw Wm ml ≤ wt 85 (85 + 1261 - 1) ml := cw_le (W := Wm) (S := 84) ml (fun x _ _ => Wm_le _)
    have := h3.2 85 1261 (by omega)
    omega
theorem made_ends {fl : List (List (Int × Int))} {ml : List (Int × Int)} {cl : List Int} {size : Int} (z : Zn) (h1 : fl.length ≤ 2) (h2 : FnsOk fl) (h3 : HintOk ml) : ∃ t, Mc.steps 3000 (begin_ ⟨fl, ml, cl, size⟩ z) = (t, false) := by
  obtain ⟨a, b⟩ := made_light h1 h2 h3
  refine Mf.ends (W := Wm) 3000 _ a ?_
  show Mf.lw Wm [⟨ml, 0, 0⟩] < 3000
  rw [Mf.lw, Mf.lw, Mf.fw]
  simp only [List.drop_zero, Nat.zero_mul]
  omega
end Go.Proofs.YthdmdgmchkhngaaGreat
