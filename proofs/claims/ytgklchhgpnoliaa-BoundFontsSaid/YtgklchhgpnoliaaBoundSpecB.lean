/- Funcs and Program of package bound, as plain functions. -/
import Derived.Test.YtgklchhgpnoliaaBoundSpec
namespace Go.Proofs.Ytgklchhgpnoliaa
namespace Bd
def funcsGo : List (List (Int × Int)) → Int → List Cost → List Cost × Int × Int
  | [], _, cs => (cs, 0, 0)
  | l :: r, i, cs => if (code l cs).2.2 ≠ 0 then ([], i, (code l cs).2.2) else funcsGo r (i + 1) (cs ++ [(code l cs).1])
def funcs (ll : List (List (Int × Int))) : List Cost × Int × Int := if ll.length > 20 then ([], 20, 2) else funcsGo ll 0 []
def whole (l : List (Int × Int)) (cs : List Cost) : Cost × Int :=
  if (code l cs).2.2 ≠ 0 then (⟨0, 0, 0, 0⟩, (code l cs).2.2) else if (code l cs).1.need > 0 then (⟨0, 0, 0, 0⟩, 51) else ((code l cs).1, 0)
def program (ll : List (List (Int × Int))) (l : List (Int × Int)) : Cost × Int :=
  if (funcs ll).2.2 ≠ 0 then (⟨0, 0, 0, 0⟩, (funcs ll).2.2) else whole l (funcs ll).1

theorem funcsGo_len : ∀ (ll : List (List (Int × Int))) (i : Int) (cs : List Cost), (funcsGo ll i cs).1.length ≤ cs.length + ll.length := by
  intro ll
  induction ll with
  | nil => intro i cs; simp [funcsGo]
  | cons l r ih =>
    intro i cs
    unfold funcsGo
    split
    · simp
    · have := ih (i + 1) (cs ++ [(code l cs).1])
      simp at this ⊢
      omega
theorem funcs_len (ll : List (List (Int × Int))) : (funcs ll).1.length ≤ 20 := by
  unfold funcs
  split
  · simp
  · have := funcsGo_len ll 0 []
    simp at this
    omega
end Bd
end Go.Proofs.Ytgklchhgpnoliaa
