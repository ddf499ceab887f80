/- fleuronref02: Half: what the operations of its drawn region may change. -/
import Derived.Test.YtnalbkjbidaojaaNumH
import Derived.Test.YtnalbkjbidaojaaNumE
namespace Go.Proofs.Ytnalbkjbidaojaa
open Go.RowKit Nm

/-- blocks stay, but a number's variable above base2 may be given the number Q -/
def HfR (base base2 : Nat) (Q : Int) (N : Nat) (W W' : World) : Prop :=
  W.heap.size ≤ W'.heap.size ∧ ∀ g, g < W.heap.size → W'.heap[g]? = W.heap[g]? ∨ (base2 ≤ g ∧ (∃ u0 u1, Blk W g 89 #[u0, u1]) ∧ NumV W' base g Q N)
section
variable {W W' : World} {base base2 N : Nat} {Q : Int}
theorem HfR.of_below (h : Below W.heap.size W W') : HfR base base2 Q N W W' := ⟨h.size, fun g hg => .inl (h.block g hg)⟩
theorem HfR.refl : HfR base base2 Q N W W := ⟨Nat.le_refl _, fun _ _ => .inl rfl⟩
theorem HfR.own {b size n : Nat} {v : Value} {xs : List Value} (hr : HfR base base2 Q N W W') (h : W.ownsRow b 3 size v n xs) : W'.ownsRow b 3 size v n xs :=
  own_keep h fun g hg => by
    rcases hr.2 g (own_lt h hg) with h1 | ⟨_, ⟨u0, u1, h2⟩, _⟩
    · exact h1
    · exact absurd rfl (own_ne h h2 (by decide) hg)
theorem HfR.num {b K : Nat} {v : Value} {x : Int} (hr : HfR base base2 Q N W W') (h : NumO b W v x K) : NumO b W' v x K := by
  obtain ⟨b1, A, d, c, e, ho, h3⟩ := h
  exact ⟨b1, A, d, c, e, hr.own ho, h3⟩
theorem HfR.var {g : Nat} {u0 u1 : Value} (hr : HfR base base2 Q N W W') (h : Blk W g 89 #[u0, u1]) : ∃ u0 u1, Blk W' g 89 #[u0, u1] := by
  rcases hr.2 g h.lt with h1 | ⟨_, _, h2⟩
  · exact ⟨u0, u1, h1.trans h⟩
  · obtain ⟨b, A, d, c, hk, _⟩ := h2
    exact ⟨_, _, hk⟩
theorem HfR.set {g : Nat} (hr : HfR base base2 Q N W W') (h : NumV W base g Q N) : NumV W' base g Q N := by
  obtain ⟨b, A, d, c, hk, ho, h3⟩ := h
  rcases hr.2 g hk.lt with h1 | ⟨_, _, h2⟩
  · exact ⟨b, A, d, c, h1.trans hk, hr.own ho, h3⟩
  · exact h2
theorem HfR.below {B : Nat} {X : World} (hr : HfR base base2 Q N W W') (h : Below B X W) (hB : B ≤ base2) (hX : B ≤ X.heap.size) : ∀ g, g < B → W'.heap[g]? = X.heap[g]? := fun g hg => by
  rcases hr.2 g (by have := h.size; omega) with h1 | ⟨h2, _⟩
  · exact h1.trans (h.block g hg)
  · omega
theorem HfR.store {g : Nat} {u0 u1 : Value} {b : Bool} {A : Option Addr} {d : List Int} {c : Nat} (hb : Blk W g 89 #[u0, u1]) (hg : base2 ≤ g) (ho : W.ownsRow base 3 1 (.slice A d.length c) d.length (dints d)) (hok : Ok b d) (hsv : sv b d = Q) (hl : d.length ≤ N) :
    HfR base base2 Q N W ((W.setCell ⟨g, 0, none⟩ (.bool b)).setCell ⟨g, 1, none⟩ (.slice A d.length c)) := by
  refine ⟨by simp, fun q hq => ?_⟩
  by_cases e : q = g
  · subst e
    exact .inr ⟨hg, ⟨u0, u1, hb⟩, NumV.put hb ho hok hsv hl⟩
  · exact .inl (by rw [Below.heap_setCell _ _ _ _ e, Below.heap_setCell _ _ _ _ e])
end
end Go.Proofs.Ytnalbkjbidaojaa
