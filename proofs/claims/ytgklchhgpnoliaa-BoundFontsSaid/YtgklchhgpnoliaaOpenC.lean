/- '[]int' and '[][4]int' opened. -/
import Derived.Test.YtgklchhgpnoliaaOpenB
import Derived.Test.YtgklchhgpnoliaaMadeI
namespace Go.Proofs.Ytgklchhgpnoliaa
open Go.ChangeShapes Go.WideShapes Go.ChangeAt Go.RowKit Go.Deep

section
variable {H : Type} {enc : TypeId × Value → H} {w : World} {spare : Nat → Bool} {held : Bool}
theorem opens_four {P : Program} {t e : TypeId} (ht : P.underlying t = some (.array 4 e)) (he : P.underlying e = some (.int .i64)) (hce : P.cellsOf e = 1) (hct : P.cellsOf t = 4) : Opens enc P w spare held (fourR w.heap.size) t := by
  intro fuel cs x h
  obtain ⟨xs, m, _, _, hl, hn, hi⟩ := DataW.trod_array ht h
  rw [hct] at hl
  match cs, hl with
  | [a0, a1, a2, a3], _ =>
    simp only [hce] at hi
    have key : ∀ (i : Nat) (a : Value), i < 4 → ([a0, a1, a2, a3].drop (i * 1)).take 1 = [a] → ∃ n : Int, a = .int .i64 n ∧ I64 n := by
      intro i a hi4 hd
      have h1 := hi i hi4
      rw [hd, List.getElem?_eq_getElem (by omega)] at h1
      obtain ⟨n, h2, _, hw⟩ := DataW.trod_int he h1
      exact ⟨n, by injection h2, bounds_i64 hw⟩
    obtain ⟨n0, rfl, b0⟩ := key 0 a0 (by omega) rfl
    obtain ⟨n1, rfl, b1⟩ := key 1 a1 (by omega) rfl
    obtain ⟨n2, rfl, b2⟩ := key 2 a2 (by omega) rfl
    obtain ⟨n3, rfl, b3⟩ := key 3 a3 (by omega) rfl
    exact ⟨(n0, n1, n2, n3), fourR_mk _ _ _ _ _ _ _ b0 b1 b2 b3⟩
set_option maxRecDepth 100000 in
theorem opens_ints : Opens enc Try.prog w spare held (Repr.row 3 (Repr.int (N0 := w.heap.size))) 43 := opens_row Try.underlying43 (by kernel_rfl) (show 0 < 1 by decide) (opens_int Try.underlying3)
set_option maxRecDepth 100000 in
theorem opens_fours : Opens enc Try.prog w spare held (Repr.row 53 (fourR w.heap.size)) 50 := opens_row Try.underlying50 (by kernel_rfl) (show 0 < 4 by decide) (opens_four Try.underlying53 Try.underlying3 (by kernel_rfl) (by kernel_rfl))
end
end Go.Proofs.Ytgklchhgpnoliaa
