/- fleuronref02: Half: the numbers of its drawn region. -/
import Derived.Test.YtnalbkjbidaojaaNumI
namespace Go.Proofs.Ytnalbkjbidaojaa
open Go.RowKit Nm

/-- what holds of the values of Half's region -/
def HfV (base base2 : Nat) (va vb : Value) (x y : Int) (N M : Nat) (i : Nat) (v : Value) (W : World) : Prop :=
  match i with
  | 0 => v = va
  | 1 => v = va
  | 2 => NumO base W v (x + x) (N + 1)
  | 3 => v = vb
  | 4 => NumO base W v (x + x + y) (N + M + 2)
  | 5 => v = vb
  | 6 => v = vb
  | 7 => NumO base W v (y + y) (M + 1)
  | 8 => ∃ v1 v2, v = .tuple #[v1, v2] ∧ NumO base W v1 ((x + x + y) / (y + y)) (N + M + 7) ∧ NumO base W v2 ((x + x + y) % (y + y)) (M + 3)
  | 9 => ∃ v1 v2, v = .tuple #[v1, v2] ∧ NumO base W v1 ((x + x + y) / (y + y)) (N + M + 7) ∧ NumO base W v2 ((x + x + y) % (y + y)) (M + 3)
  | 10 => NumO base W v ((x + x + y) / (y + y)) (N + M + 7)
  | 11 => NumO base W v ((x + x + y) % (y + y)) (M + 3)
  | 12 => ∃ g u0 u1, v = .pointer (some ⟨g, 0, none⟩) ∧ base2 ≤ g ∧ Blk W g 89 #[u0, u1]
  | 13 => ∃ g u0 u1, v = .pointer (some ⟨g, 0, none⟩) ∧ base2 ≤ g ∧ Blk W g 89 #[u0, u1]
  | 14 => ∃ g, v = .pointer (some ⟨g, 0, none⟩) ∧ base2 ≤ g ∧ NumV W base g ((x + x + y) / (y + y)) (N + M + 7)
  | _ => True
def HfD (i : Nat) (v : Value) (j : Nat) (v' : Value) : Prop :=
  match i, j with
  | 12, 13 => v ≠ v'
  | 13, 12 => v ≠ v'
  | 14, 12 => v = v'
  | 12, 14 => v = v'
  | _, _ => True
theorem HfV.keep {base base2 : Nat} {va vb : Value} {x y : Int} {N M : Nat} {i : Nat} {v : Value} {W W' : World} (h : HfV base base2 va vb x y N M i v W) (hr : HfR base base2 ((x + x + y) / (y + y)) (N + M + 7) W W') : HfV base base2 va vb x y N M i v W' := by
  match i with
  | 0 | 1 | 3 | 5 | 6 => exact h
  | 2 | 4 | 7 | 10 | 11 => exact hr.num h
  | 8 | 9 =>
    obtain ⟨v1, v2, e, h1, h2⟩ := h
    exact ⟨v1, v2, e, hr.num h1, hr.num h2⟩
  | 12 | 13 =>
    obtain ⟨g, u0, u1, e, h1, h2⟩ := h
    obtain ⟨u0', u1', h3⟩ := hr.var h2
    exact ⟨g, u0', u1', e, h1, h3⟩
  | 14 =>
    obtain ⟨g, e, h1, h2⟩ := h
    exact ⟨g, e, h1, hr.set h2⟩
  | i + 15 => trivial
end Go.Proofs.Ytnalbkjbidaojaa
