/- The number that grid.Scale tells, as a rounded quotient: plain arithmetic over the functions of RatioB and RatioC. -/
import Derived.Test.YtnalbkjbidaojaaRatioC
import Derived.Deep.QuietTactic
import Derived.BigQuiet
namespace Go.Proofs.Ytnalbkjbidaojaa
open Go.RowKit

/-- the greatest whole number that is not above z by u, and a half -/
def hf (z u : Int) : Int := (2 * z + u) / (2 * u)

theorem hf_bounds (z u : Int) (hu : 0 < u) : -u ≤ 2 * (z - hf z u * u) ∧ 2 * (z - hf z u * u) < u := by
  unfold hf
  have h1 := Int.mul_ediv_add_emod (2 * z + u) (2 * u)
  have h2 := Int.emod_nonneg (2 * z + u) (show 2 * u ≠ 0 by omega)
  have h3 := Int.emod_lt_of_pos (2 * z + u) (show 0 < 2 * u by omega)
  have e : 2 * u * ((2 * z + u) / (2 * u)) = 2 * ((2 * z + u) / (2 * u) * u) := by rw [Int.mul_assoc, Int.mul_comm u]
  rw [e] at h1
  generalize (2 * z + u) / (2 * u) * u = t at *
  omega
theorem hf_zero (u : Int) (hu : 0 < u) : hf 0 u = 0 := by
  unfold hf
  exact Int.ediv_eq_zero_of_lt (by omega) (by omega)
theorem hf_add (z u k : Int) (hu : 0 < u) : hf (z + u * k) u = hf z u + k := by
  unfold hf
  have e : 2 * (z + u * k) + u = 2 * z + u + 2 * u * k := by rw [Int.mul_add, Int.mul_assoc]; omega
  rw [e, Int.add_mul_ediv_left _ _ (by omega)]
theorem hf_mono (z z' u : Int) (hu : 0 < u) (h : z ≤ z') : hf z u ≤ hf z' u := by
  unfold hf
  exact Int.ediv_le_ediv (by omega) (by omega)

/-- a number with a sign: its quotient by u, rounded, out of the quotient and the rest of its size -/
theorem cut_hf (N u : Int) (m : Bool) (_hN : 0 ≤ N) (hu : 0 < u) : (if m then -(cutQ (N / u) (N % u) u m) else cutQ (N / u) (N % u) u m) = hf (if m then -N else N) u := by
  have h1 := Int.mul_ediv_add_emod N u
  have h2 := Int.emod_nonneg N (show u ≠ 0 by omega)
  have h3 := Int.emod_lt_of_pos N hu
  generalize N / u = q at *
  generalize N % u = r at *
  subst h1
  unfold cutQ hf
  cases m with
  | false =>
    simp only [Bool.false_eq_true, if_false]
    have e : 2 * (u * q + r) + u = (2 * r + u) + 2 * u * q := by rw [Int.mul_add, Int.mul_assoc]; omega
    rw [e, Int.add_mul_ediv_left _ _ (by omega)]
    by_cases h : u - r ≤ r
    · rw [if_pos h]
      have : (2 * r + u) / (2 * u) = 1 := by
        rw [show 2 * r + u = (2 * r - u) + 2 * u * 1 by omega, Int.add_mul_ediv_left _ _ (by omega), Int.ediv_eq_zero_of_lt (by omega) (by omega)]; rfl
      omega
    · rw [if_neg h, Int.ediv_eq_zero_of_lt (by omega) (by omega)]; omega
  | true =>
    simp only [if_true]
    have e : 2 * (-(u * q + r)) + u = (u - 2 * r) + 2 * u * (-q) := by
      rw [show 2 * u * (-q) = -(2 * (u * q)) by rw [Int.mul_neg, Int.mul_assoc]]; omega
    rw [e, Int.add_mul_ediv_left _ _ (by omega)]
    by_cases h : u - r < r
    · rw [if_pos h]
      have : (u - 2 * r) / (2 * u) = -1 := by
        rw [show u - 2 * r = (3 * u - 2 * r) + 2 * u * (-1) by omega, Int.add_mul_ediv_left _ _ (by omega), Int.ediv_eq_zero_of_lt (by omega) (by omega)]; rfl
      omega
    · rw [if_neg h, Int.ediv_eq_zero_of_lt (by omega) (by omega)]; omega

theorem cut_range (N u : Int) (m : Bool) (hN : 0 ≤ N) (hu : 0 < u) :
    cutV (N / u) (N % u) u m = (if -9223372036854775808 ≤ hf (if m then -N else N) u ∧ hf (if m then -N else N) u ≤ 9223372036854775807 then hf (if m then -N else N) u else 0) := by
  have h := cut_hf N u m hN hu
  have hq : N / u ≤ cutQ (N / u) (N % u) u m := by unfold cutQ; split <;> split <;> omega
  have hq0 : 0 ≤ N / u := Int.ediv_nonneg hN (by omega)
  unfold cutV cutOk
  rw [h]
  generalize hf (if m then -N else N) u = H at *
  generalize cutQ (N / u) (N % u) u m = c at *
  generalize N / u = q at *
  cases m with
  | false =>
    simp only [Bool.false_eq_true, if_false] at h ⊢
    subst h
    by_cases hb : c < 9223372036854775808
    · rw [if_pos (by simp; omega), if_pos ⟨by omega, by omega⟩]
    · rw [if_neg (by simp; omega), if_neg (by omega)]
  | true =>
    simp only [if_true] at h ⊢
    by_cases hb : c ≤ 9223372036854775808
    · rw [if_pos (by simp; omega), if_pos ⟨by omega, by omega⟩]
    · rw [if_neg (by simp; omega), if_neg (by omega)]

/-- whatever the signs: the number that ratio.Scale tells, where b is above 0 -/
theorem scV_pos (n a b : Int) (hb : 0 < b) : scV n a b = (if -9223372036854775808 ≤ hf (n * a) b ∧ hf (n * a) b ≤ 9223372036854775807 then hf (n * a) b else 0) := by
  unfold scV scQ scR
  rw [show ((b.natAbs : Nat) : Int) = b by omega, cut_range (scN n a) b (scM n a b) (Int.mul_nonneg (by omega) (by omega)) hb]
  have e : (if scM n a b then -(scN n a) else scN n a) = n * a := by
    unfold scM scN
    rw [show decide (b < 0) = false from decide_eq_false (by omega)]
    by_cases h1 : n < 0 <;> by_cases h2 : a < 0
    · rw [decide_eq_true h1, decide_eq_true h2]; simp only [show ((n.natAbs : Nat) : Int) = -n by omega, show ((a.natAbs : Nat) : Int) = -a by omega]; simp <;> first | exact Int.neg_mul_neg _ _ | exact Int.neg_mul _ _ | exact Int.mul_neg _ _ | (rw [Int.neg_mul, Int.neg_neg]) | (rw [Int.mul_neg, Int.neg_neg])
    · rw [decide_eq_true h1, decide_eq_false h2]; simp only [show ((n.natAbs : Nat) : Int) = -n by omega, show ((a.natAbs : Nat) : Int) = a by omega]; simp <;> first | exact Int.neg_mul_neg _ _ | exact Int.neg_mul _ _ | exact Int.mul_neg _ _ | (rw [Int.neg_mul, Int.neg_neg]) | (rw [Int.mul_neg, Int.neg_neg])
    · rw [decide_eq_false h1, decide_eq_true h2]; simp only [show ((n.natAbs : Nat) : Int) = n by omega, show ((a.natAbs : Nat) : Int) = -a by omega]; simp <;> first | exact Int.neg_mul_neg _ _ | exact Int.neg_mul _ _ | exact Int.mul_neg _ _ | (rw [Int.neg_mul, Int.neg_neg]) | (rw [Int.mul_neg, Int.neg_neg])
    · rw [decide_eq_false h1, decide_eq_false h2]; simp only [show ((n.natAbs : Nat) : Int) = n by omega, show ((a.natAbs : Nat) : Int) = a by omega]; simp <;> first | exact Int.neg_mul_neg _ _ | exact Int.neg_mul _ _ | exact Int.mul_neg _ _ | (rw [Int.neg_mul, Int.neg_neg]) | (rw [Int.mul_neg, Int.neg_neg])
  rw [e]
/-- .. and where it is below 0 -/
theorem scV_neg (n a b : Int) (hb : b < 0) : scV n a b = (if -9223372036854775808 ≤ hf (-(n * a)) (-b) ∧ hf (-(n * a)) (-b) ≤ 9223372036854775807 then hf (-(n * a)) (-b) else 0) := by
  unfold scV scQ scR
  rw [show ((b.natAbs : Nat) : Int) = -b by omega, cut_range (scN n a) (-b) (scM n a b) (Int.mul_nonneg (by omega) (by omega)) (by omega)]
  have e : (if scM n a b then -(scN n a) else scN n a) = -(n * a) := by
    unfold scM scN
    rw [show decide (b < 0) = true from decide_eq_true (by omega)]
    by_cases h1 : n < 0 <;> by_cases h2 : a < 0
    · rw [decide_eq_true h1, decide_eq_true h2]; simp only [show ((n.natAbs : Nat) : Int) = -n by omega, show ((a.natAbs : Nat) : Int) = -a by omega]; simp <;> first | exact Int.neg_mul_neg _ _ | exact Int.neg_mul _ _ | exact Int.mul_neg _ _ | (rw [Int.neg_mul, Int.neg_neg]) | (rw [Int.mul_neg, Int.neg_neg])
    · rw [decide_eq_true h1, decide_eq_false h2]; simp only [show ((n.natAbs : Nat) : Int) = -n by omega, show ((a.natAbs : Nat) : Int) = a by omega]; simp <;> first | exact Int.neg_mul_neg _ _ | exact Int.neg_mul _ _ | exact Int.mul_neg _ _ | (rw [Int.neg_mul, Int.neg_neg]) | (rw [Int.mul_neg, Int.neg_neg])
    · rw [decide_eq_false h1, decide_eq_true h2]; simp only [show ((n.natAbs : Nat) : Int) = n by omega, show ((a.natAbs : Nat) : Int) = -a by omega]; simp <;> first | exact Int.neg_mul_neg _ _ | exact Int.neg_mul _ _ | exact Int.mul_neg _ _ | (rw [Int.neg_mul, Int.neg_neg]) | (rw [Int.mul_neg, Int.neg_neg])
    · rw [decide_eq_false h1, decide_eq_false h2]; simp only [show ((n.natAbs : Nat) : Int) = n by omega, show ((a.natAbs : Nat) : Int) = a by omega]; simp <;> first | exact Int.neg_mul_neg _ _ | exact Int.neg_mul _ _ | exact Int.mul_neg _ _ | (rw [Int.neg_mul, Int.neg_neg]) | (rw [Int.mul_neg, Int.neg_neg])
  rw [e]

set_option maxHeartbeats 400000 in
theorem div64_zero (lo y : Int) (h0 : 0 ≤ lo) (h1 : lo ≤ 18446744073709551615) (hy : 1 ≤ y) (hy1 : y ≤ 18446744073709551615) : Div64At 0 lo y (lo / y) (lo % y) := by
  intro w
  go_enter Try.func44, Try.ntmps44
  go_wp2
  go_quiet (fail)
  go_wp2
  go_ret2
  exact ⟨rfl, below_drewN (Below.refl _ _) _⟩
end Go.Proofs.Ytnalbkjbidaojaa
