/- Parts of the proof, joined: BoundSpecC. -/
import Derived.Test.YtnhebmgibiomnaaGreatPc0
set_option linter.unusedVariables false
set_option linter.unusedSimpArgs false
namespace Go.Proofs.YtnhebmgibiomnaaGreat
namespace Bd
def Small (c : Cost) : Prop := -64 ≤ c.need ∧ c.need ≤ 4096 ∧ -64 ≤ c.delta ∧ c.delta ≤ 4096 ∧ -64 ≤ c.peak ∧ c.peak ≤ 4096 ∧ -64 ≤ c.steps ∧ c.steps ≤ 4096
theorem rest_small {n : Nat} {fs : List Cost} (hf : fs.all mayBe = true) : ∀ (l : List (Int × Int)) (at_ : Int) (s : St), Ok n s → Small (rest n fs l at_ s).1 := by
  intro l
  induction l with
  | nil =>
    intro at_ s h
    have h1 := h.need
    have h2 := h.peak
    have h3 := pat_bd h at_
    unfold okP at h3
    simp only [rest, Small]
    omega
  | cons x r ih =>
    intro at_ s h
    unfold rest
    split
    · simp [Small]
    · rename_i he
      exact ih _ _ (look_ok hf h (by simpa using he))
theorem code_small (l : List (Int × Int)) (fs : List Cost) : Small (code l fs).1 := by
  unfold code
  split
  · rename_i h; exact rest_small h l 0 _ (start_ok _)
  · simp [Small]
end Bd
end Go.Proofs.YtnhebmgibiomnaaGreat
