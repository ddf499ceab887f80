/- Division by bits in plain words. No program in sight. -/
import Derived.Test.YtnalbkjbidaojaaNumLaw
namespace Go.Proofs.Ytnalbkjbidaojaa
namespace Nm
theorem p2 (k : Nat) : (0 : Int) < 2 ^ k := Int.pow_pos (by decide)
theorem half_next (V : Int) (s : Nat) : V / 2 ^ s = 2 * (V / 2 ^ (s + 1)) + (V / 2 ^ s) % 2 := by
  have h : V / 2 ^ (s + 1) = V / 2 ^ s / 2 := by rw [Int.pow_succ, Int.ediv_ediv_of_nonneg (Int.le_of_lt (p2 s))]
  rw [h]
  omega
theorem pw_two (m : Nat) : pw m = 2 ^ (16 * m) := by
  unfold pw
  rw [Int.pow_mul]
  rfl
theorem bit_at {d : List Int} (hd : Dig d) (m t : Nat) (ht : t < 16) : (val d / 2 ^ (16 * m + t)) % 2 = (d.getD m 0 / 2 ^ t) % 2 := by
  have hlow : val d / pw m = d.getD m 0 + 65536 * val (d.drop (m + 1)) := by
    have h1 : val d = val (d.take m) + pw m * (d.getD m 0 + 65536 * val (d.drop (m + 1))) := by
      by_cases h : m < d.length
      · conv => lhs; rw [← List.take_append_drop m d]
        rw [val_append, List.length_take, Nat.min_eq_left (by omega), List.drop_eq_getElem_cons h, val, List.getD_eq_getElem?_getD, List.getElem?_eq_getElem h]
        rfl
      · rw [take_all d (by omega), List.getD_eq_getElem?_getD, List.getElem?_eq_none (by omega), List.drop_eq_nil_of_le (by omega)]
        simp [val]
    have h2 := val_nonneg (hd.take m)
    have h3 : val (d.take m) < pw m := by
      have h4 := val_lt (hd.take m)
      have h5 : pw (d.take m).length ≤ pw m := pw_le (List.length_take_le _ _)
      omega
    rw [h1, Int.add_mul_ediv_left _ _ (Int.ne_of_gt (pw_pos m)), Int.ediv_eq_zero_of_lt h2 h3, Int.zero_add]
  rw [Int.pow_add, ← pw_two, ← Int.ediv_ediv_of_nonneg (Int.le_of_lt (pw_pos m)), hlow]
  obtain ⟨u, hu⟩ : ∃ u, t + 1 + u = 16 := ⟨15 - t, by omega⟩
  have h6 : (65536 : Int) = 2 ^ t * (2 * 2 ^ u) := by
    rw [← Int.mul_assoc, ← Int.pow_succ, ← Int.pow_add, hu]
    rfl
  rw [h6, Int.mul_assoc, Int.add_mul_ediv_left _ _ (Int.ne_of_gt (p2 t)), Int.mul_assoc]
  omega
end Nm
end Go.Proofs.Ytnalbkjbidaojaa
