/- Long multiplication in plain words. No program in sight. -/
import Derived.Test.YtnalbkjbidaojaaNumLaw
namespace Go.Proofs.Ytnalbkjbidaojaa
namespace Nm

theorem pw_add (i k : Nat) : pw (i + k) = pw i * pw k := by unfold pw; exact Int.pow_add 65536 i k
theorem val_set : ∀ (o : List Int) (j : Nat) (x : Int), j < o.length → val (o.set j x) = val o + pw j * (x - o.getD j 0)
  | [], _, _, h => absurd h (by simp)
  | y :: r, 0, x, _ => by
    rw [List.set_cons_zero, val, val, pw_zero, List.getD_cons_zero]
    omega
  | y :: r, j + 1, x, h => by
    rw [List.set_cons_succ, val, val, val_set r j x (by simpa using h), pw_succ, List.getD_cons_succ, Int.mul_add, ← Int.mul_assoc]
    omega
theorem dig_set {o : List Int} (h : Dig o) (j : Nat) {x : Int} (h0 : 0 ≤ x) (h1 : x < 65536) : Dig (o.set j x) := by
  intro y hy
  rcases List.mem_or_eq_of_mem_set hy with h2 | rfl
  · exact h y h2
  · exact ⟨h0, h1⟩
/-- what holds in the midst of a row -/
def TmE (a b o : List Int) (i k : Nat) (c : Int) : Prop := val o + pw (i + k) * c = val (a.take i) * val b + pw i * (a.getD i 0 * val (b.take k))
theorem TmE.step {a b o : List Int} {i k : Nat} {c q r : Int} (h : TmE a b o i k c) (hj : i + k < o.length) (hv : o.getD (i + k) 0 + a.getD i 0 * b.getD k 0 + c = 65536 * q + r) : TmE a b (o.set (i + k) r) i (k + 1) q := by
  unfold TmE at h ⊢
  rw [val_set o _ r hj, take_succ_val b k, show i + (k + 1) = i + k + 1 by omega, pw_succ]
  have h1 : pw (i + k) * (65536 * q + r) = pw (i + k) * (o.getD (i + k) 0 + a.getD i 0 * b.getD k 0 + c) := by rw [hv]
  have h2 : pw i * (a.getD i 0 * (val (b.take k) + pw k * b.getD k 0)) = pw i * (a.getD i 0 * val (b.take k)) + pw (i + k) * (a.getD i 0 * b.getD k 0) := by
    rw [pw_add, Int.mul_add, Int.mul_add]
    congr 1
    rw [Int.mul_assoc]
    congr 1
    rw [← Int.mul_assoc, ← Int.mul_assoc, Int.mul_comm (pw k)]
  rw [h2]
  rw [Int.mul_add, Int.mul_add, Int.mul_add] at h1
  rw [Int.mul_sub]
  have h3 : pw (i + k) * (65536 * q) = 65536 * pw (i + k) * q := by rw [← Int.mul_assoc, Int.mul_comm (pw (i + k))]
  omega
theorem TmE.fit {a b o : List Int} {i k : Nat} {c : Int} (h : TmE a b o i k c) (ha : Dig a) (hb : Dig b) (ho : Dig o) (hc : 0 < c) (hi : i < a.length) : k ≤ b.length := by
  unfold TmE at h
  apply Nat.le_of_not_lt
  intro hk
  rw [take_all b (by omega)] at h
  have h1 := val_nonneg ho
  have h2 : pw (i + k) * 1 ≤ pw (i + k) * c := Int.mul_le_mul_of_nonneg_left (by omega) (Int.le_of_lt (pw_pos _))
  have h3 : val (a.take i) * val b + pw i * (a.getD i 0 * val b) = val (a.take (i + 1)) * val b := by rw [take_succ_val, Int.add_mul, Int.mul_assoc]
  have h4 := val_lt (ha.take (i + 1))
  rw [List.length_take, Nat.min_eq_left (by omega)] at h4
  have h5 := val_lt hb
  have h6 := val_nonneg hb
  have h7 := val_nonneg (ha.take (i + 1))
  have h8 : val (a.take (i + 1)) * val b ≤ pw (i + 1) * val b := Int.mul_le_mul_of_nonneg_right (by omega) h6
  have h9 : pw (i + 1) * val b < pw (i + 1) * pw b.length := Int.mul_lt_mul_of_pos_left h5 (pw_pos _)
  rw [← pw_add] at h9
  have h10 : pw (i + 1 + b.length) ≤ pw (i + k) := pw_le (by omega)
  omega
theorem TmE.ends {a b o : List Int} {i k : Nat} (h : TmE a b o i k 0) (hk : b.length ≤ k) : val o = val (a.take (i + 1)) * val b := by
  unfold TmE at h
  rw [take_all b hk, Int.mul_zero, Int.add_zero] at h
  rw [h, take_succ_val, Int.add_mul, Int.mul_assoc]
theorem TmE.starts {a b o : List Int} {i : Nat} (h : val o = val (a.take i) * val b) : TmE a b o i 0 0 := by
  unfold TmE
  rw [h, List.take_zero]
  simp [val]
theorem tm_sign (b b2 : Bool) (d d2 : List Int) {v : Int} {x y : Int} (hv : v = val d * val d2) (h1 : sv b d = x) (h2 : sv b2 d2 = y) : (if (b != b2) = true then -v else v) = x * y := by
  subst h1; subst h2; subst hv
  unfold sv
  cases b <;> cases b2 <;> simp [Int.neg_mul, Int.mul_neg]
theorem tm_bound {x y o c : Int} (hx : 0 ≤ x ∧ x < 65536) (hy : 0 ≤ y ∧ y < 65536) (ho : 0 ≤ o ∧ o < 65536) (hc : 0 ≤ c ∧ c < 65536) : 0 ≤ x * y ∧ x * y ≤ 4294836225 ∧ 0 ≤ o + x * y + c ∧ o + x * y + c ≤ 4294967295 := by
  have h1 : 0 ≤ x * y := Int.mul_nonneg hx.1 hy.1
  have h2 : x * y ≤ 65535 * 65535 := Int.mul_le_mul (by omega) (by omega) hy.1 (by omega)
  omega
theorem val_zeros : ∀ n : Nat, val (List.replicate n 0) = 0
  | 0 => rfl
  | n + 1 => by rw [List.replicate_succ, val, val_zeros n]; rfl
theorem dig_zeros (n : Nat) : Dig (List.replicate n 0) := fun y hy => by rw [(List.mem_replicate.1 hy).2]; exact ⟨by decide, by decide⟩
end Nm
end Go.Proofs.Ytnalbkjbidaojaa
