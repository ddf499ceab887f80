/- grid.Scale: its contract, for all numbers. -/
import Derived.Test.YtnalbkjbidaojaaDiv64
import Derived.Test.YtnalbkjbidaojaaScaleMath
namespace Go.Proofs.Ytnalbkjbidaojaa
open Go.RowKit

theorem div64_all (hi lo y : Int) (h0 : 0 ≤ hi) (h1 : hi < y) (hy : y ≤ 18446744073709551615) (l0 : 0 ≤ lo) (l1 : lo ≤ 18446744073709551615) : Div64At hi lo y ((hi * 18446744073709551616 + lo) / y) ((hi * 18446744073709551616 + lo) % y) := by
  obtain ⟨a, rfl⟩ := Int.eq_ofNat_of_zero_le h0
  obtain ⟨b, rfl⟩ := Int.eq_ofNat_of_zero_le l0
  obtain ⟨c, rfl⟩ := Int.eq_ofNat_of_zero_le (show 0 ≤ y by omega)
  by_cases hz : a = 0
  · subst hz
    have := div64_zero (b : Int) (c : Int) l0 l1 (by omega) hy
    simpa using this
  · intro w
    have := div64_any a b c w (by omega) (by omega) (by omega) (by omega)
    refine this.mono fun e w' ⟨he, hw⟩ => ⟨?_, hw ▸ Below.refl _ _⟩
    rw [he, Int.natCast_ediv, Int.natCast_emod, Int.natCast_add, Int.natCast_mul]
    rfl
theorem sc_split (n a : Int) : scHi n a * 18446744073709551616 + scLo n a = scN n a := by
  unfold scHi scLo scN
  omega
theorem gscale_all (unit size n : Int) (w : World) (hn0 : -9223372036854775808 ≤ n) (hn1 : n ≤ 9223372036854775807) (hu0 : -9223372036854775808 ≤ unit) (hu1 : unit ≤ 9223372036854775807) :
    Calls Try.prog 7 #[.int .i64 unit, .int .i64 size, .int .i64 n] w fun e w' => e = .returned (.int .i64 (gsc unit size n)) ∧ Below w.heap.size w w' := by
  refine gscale_any unit size n w hn0 hn1 hu0 hu1 fun hu hlt => ?_
  have hN : 0 ≤ scN n (wrap64 (64 * size)) := Int.mul_nonneg (by omega) (by omega)
  have h1 : 0 ≤ scHi n (wrap64 (64 * size)) := Int.ediv_nonneg hN (by omega)
  have h2 : 0 ≤ scLo n (wrap64 (64 * size)) ∧ scLo n (wrap64 (64 * size)) < 18446744073709551616 := ⟨Int.emod_nonneg _ (by omega), Int.emod_lt_of_pos _ (by omega)⟩
  have := div64_all _ (scLo n (wrap64 (64 * size))) _ h1 hlt (by omega) h2.1 (by omega)
  rw [sc_split] at this
  exact this
/-- what grid.Scale tells, in plain words -/
theorem gsc_is (unit size n : Int) : gsc unit size n = if unit = 0 then 0 else
    let N := if unit < 0 then -(n * wrap64 (64 * size)) else n * wrap64 (64 * size)
    let v := hf N unit.natAbs
    if -9223372036854775808 ≤ v ∧ v ≤ 9223372036854775807 then v else 0 := by
  unfold gsc
  by_cases h : unit = 0
  · subst h; rfl
  · have hb : (unit == 0) = false := by simpa using h
    rw [hb, if_neg h]
    simp only [Bool.false_eq_true, if_false]
    by_cases hn : unit < 0
    · rw [scV_neg _ _ _ hn, if_pos hn, show ((unit.natAbs : Nat) : Int) = -unit by omega]
    · rw [scV_pos _ _ _ (by omega), if_neg hn, show ((unit.natAbs : Nat) : Int) = unit by omega]
end Go.Proofs.Ytnalbkjbidaojaa
